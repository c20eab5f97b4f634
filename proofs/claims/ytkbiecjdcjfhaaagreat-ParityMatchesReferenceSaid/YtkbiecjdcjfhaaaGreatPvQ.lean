/- Plain code, one rule an operation. -/
import Derived.Test.YtkbiecjdcjfhaaaGreatPvRow
set_option linter.unusedSimpArgs false
set_option linter.unusedVariables false
set_option maxRecDepth 100000
set_option maxHeartbeats 16000000
section
namespace Go.Pv
open Go
structure W (P:Program) (G:bP) (K:Env->St->Prop) (l:List bC) (e:Env) (s:St):Prop where
  out:wpOps P G K l e s
structure Cd (P:Program) (G:bP) (rd:Bool) (nt:Nat) (c:bx) (e:Env) (s:St) (Q:Out->Env->St->Prop):Prop where
  out:aX P G rd nt c e s Q
section
variable {P:Program}{G:bP}{K:Env->St->Prop}{l:List bC}{e:Env}{s:St}{d:Nat}{g:Option (Nat × Bool)}{fl:Bool}
theorem wN:aK none e=some true:=rfl
theorem wG {i:Nat}{b:Bool}(h:e.at i = .bool b):aK (some (i,b)) e=some true:=by simp[aK,h]
theorem wG0 {i:Nat}{b c:Bool}(h:e.at i = .bool c) (a:(c == b)=false):aK (some (i,b)) e=some false:=by simp[aK,h,a]
theorem q_skip {o:bC}{i:Nat}{b c:Bool}(ho:o.guard=some (i,b)) (h:e.at i = .bool c) (a:(c == b)=false) (k:W P G K l (e.put o.dst (.cE [])) s):W P G K (o::l) e s:=⟨yj (by rw[ho];exact wG0 h a) k.out⟩
theorem q_op {op:bq}{v:LV}{s':St}(a:aK g e=some true) (hs:dP fl op e=true) (b:op.run e s=some (v,s')) (k:W P G K l (Tr.set e d v) s'):W P G K (⟨some d,op,g,[],fl⟩::l) e s:=
 ⟨JV a b hs trivial k.out⟩
theorem q_mv {x:bF}{v:LV}(a:aK g e=some true) (hx:x.ev e=v) (k:W P G K l (Tr.set e d v) s):W P G K (⟨some d, .mv x,g,[],fl⟩::l) e s:=
 q_op a rfl (by simp[bq.run,hx]) k
theorem q_len {x:bF}{v:LV}{n:Nat}(a:aK g e=some true) (hx:x.ev e=v) (b:ji v=some n) (k:W P G K l (Tr.set e d (.int .i64 n)) s):W P G K (⟨some d, .yL x,g,[],fl⟩::l) e s:=
 q_op a rfl (by simp[bq.run,hx,b]) k
theorem JT {x i:bF}{aZ:Nat}{v a r:LV}{s':St}(b:aK g e=some true) (hx:x.ev e=v) (c:i.ev e=a) (f:yO aZ v a s=some (r,s')) (k:W P G K l (Tr.set e d r) s'):W P G K (⟨some d, .wj aZ x i,g,[],fl⟩::l) e s:=
 q_op b rfl (by rw[Lo,hx,c,f]) k
theorem Bn {op:BinOp}{x y:bF}{a b:LV}{c:Bool}(f:aK g e=some true) (hx:x.ev e=a) (h:y.ev e=b) (i:kr op a b=some (.bool c)) (k:∀ b,c=b->W P G K l (Tr.set e d (.bool b)) s):W P G K (⟨some d, .bin op x y,g,[],fl⟩::l) e s:=
 ⟨TQ f (by rw[hx,h];exact i) λb j=>(k b j).out⟩
theorem q_bin {op:BinOp}{x y:bF}{a b:LV}{v:LV}(c:aK g e=some true) (hx:x.ev e=a) (f:y.ev e=b) (h:kr op a b=some v) (k:W P G K l (Tr.set e d v) s):W P G K (⟨some d, .bin op x y,g,[],fl⟩::l) e s:=
 q_op c rfl (by simp[bq.run,hx,f,h]) k
theorem q_eq {neg:Bool}{t:cT}{x y:bF}{a b:LV}{c:Bool}(f:aK g e=some true) (hx:x.ev e=a) (h:y.ev e=b) (i:mw t a b=some c) (k:∀ b,(if neg then !c else c)=b->W P G K l (Tr.set e d (.bool b)) s):W P G K (⟨some d, .eq neg t x y,g,[],fl⟩::l) e s:=
 ⟨X3 f (by rw[hx,h];exact i) λb j=>(k b j).out⟩
theorem iw {op:bq}{s':St}{v:LV}(a:op.run e s=some (v,s')) (h:W P G K l (Tr.set e d v) s'):W P G K (⟨some d,op,none,[],false⟩::l) e s:=⟨TO a h.out⟩
theorem XX {op:bq}{s':St}{v:LV}(a:op.run e s=some (v,s')) (h:W P G K l e s'):W P G K (⟨none,op,none,[],false⟩::l) e s:=⟨TL a h.out⟩
theorem tq (a:∀ x∈G,LV.closed.au x.2=true) {dst:Option Nat}{jT:List (Nat × Option (Nat × Bool) × bq)}{as:List bF}{vs:List LV}{fv r:LV}(b:fu P G fv vs r) (f:aK g e=some true) (i:as.map (·.ev e)=vs)
 (j:dG jT (e.put dst r) s) (h:W P G K l (e.put dst r) s):W P G K (⟨dst, .call (.c fv) as,g,jT,fl⟩::l) e s:=⟨TP a b f i j h.out⟩
theorem cK (f:∀ x∈G,LV.closed.au x.2=true) {dst:Option Nat}{jT:List (Nat × Option (Nat × Bool) × bq)}{as:List bF}{vs:List LV}{fv:LV}{R:LV->Prop}(i:ny P G fv vs R) (j:aK g e=some true) (k:as.map (·.ev e)=vs)
 (h:∀ r,R r->r.closed=true->dG jT (e.put dst r) s/\W P G K l (e.put dst r) s):W P G K (⟨dst, .call (.c fv) as,g,jT,fl⟩::l) e s:=⟨LK f i j k λr a b=>⟨(h r a b).1,(h r a b).2.out⟩⟩
theorem cO (i:∀ x∈G,LV.closed.au x.2=true) {dst:Option Nat}{jT:List (Nat × Option (Nat × Bool) × bq)}{as:List bF}{vs:List LV}{fv:LV}{a:Bool}(j:fu P G fv vs (.bool a)) (k:aK g e=some true) (m:as.map (·.ev e)=vs)
 (h:∀ b,a=b->dG jT (e.put dst (.bool b)) s/\W P G K l (e.put dst (.bool b)) s):W P G K (⟨dst, .call (.c fv) as,g,jT,fl⟩::l) e s:=⟨O5 i j k m λb f=>⟨(h b f).1,(h b f).2.out⟩⟩
theorem bK {dst:Option Nat}{jT:List (Nat × Option (Nat × Bool) × bq)}{f:bF}{as:List bF}{vs:List LV}{fv:LV}(b:aK g e=some true) (c:f.ev e=fv) (i:as.map (·.ev e)=vs)
 (h:aM P G fv vs s (λv s'=>dG jT (e.put dst v) s'/\W P G K l (e.put dst v) s')):W P G K (⟨dst, .call f as,g,jT,fl⟩::l) e s:=
 ⟨ue rfl b (by rw[c,i];exact aM.mono h λv s a=>⟨a.1,a.2.out⟩)⟩
theorem Wv (h:K e s):W P G K [] e s:=⟨h⟩
variable {rd:Bool}{nt:Nat}{Q:Out->Env->St->Prop}
theorem JM (h:Q .normal e s):Cd P G rd nt .skip e s Q:=⟨Ka h⟩
theorem JQ {id:Nat}(h:Q (.jmp (.exit id)) e s):Cd P G rd nt (.exit id) e s Q:=⟨Ke h⟩
theorem OW (h:Q (.jmp .ret) e s):Cd P G rd nt .ret e s Q:=⟨Pu h⟩
theorem ED {id:Nat}{x:bx}(h:Cd P G rd nt x e s (Dz id Q)):Cd P G rd nt (.block id x) e s Q:=⟨EO h.out⟩
theorem Ez {x:bx}(h:Cd P G rd nt x e s Q):Cd P G rd nt (.scope x) e s Q:=⟨EN h.out⟩
theorem kE {a b:bx}(h:Cd P G rd nt a e s (Cg (λe s=>Cd P G rd nt b e s Q) Q)):Cd P G rd nt (.seq a b) e s Q:=
 ⟨Pr (aX.mono h.out λo e s c=>by cases o with | normal=>exact Cd.out c | jmp j=>exact c)⟩
theorem iC (hm:P.follows .mixedOrders=true) {l:List bC}(h:W P G (λe s=>Q .normal e s) l e s):Cd P G rd nt (.region l) e s Q:=⟨LJ hm h.out⟩
theorem EB {x:bF}{a b:bx}(hx:x.ev e = .bool true) (h:Cd P G rd nt a e s Q):Cd P G rd nt (.cond x a b) e s Q:=⟨O6 hx h.out⟩
theorem EC {x:bF}{a b:bx}(hx:x.ev e = .bool false) (h:Cd P G rd nt b e s Q):Cd P G rd nt (.cond x a b) e s Q:=⟨O7 hx h.out⟩
theorem aN {x:bx}(I:Nat->Env->St->Prop) (n:Nat) (h:I n e s)
 (a:∀ n e s,I n e s->Cd P G rd nt x e s (Cg (λe s=>∃ m,m<n/\I m e s) Q)):Cd P G rd nt (.loop x) e s Q:=⟨vX I (λn e s h=>(a n e s h).out) n h⟩
theorem gO {k : Nat}{fn : Func}{refs : List Nat}{lf : bh}{args : List LV}{r : LV}{t : Nat}(hm : P.follows .mixedOrders = true) (hf : P.funcs[k]? = some fn) (hn : (fn.name == "runtime.NumGoroutine") = false) (hc : aL P G refs fn = some lf)
 (hlen:args.length<=lf.ntmps) (ha:LV.closed.au args=true) (hr:r.closed=true) (ht:lf.results=[.tmp t])
 (h:Cd P G false lf.ntmps lf.body (fm args) St.empty (λo e s=>(o = .normal∨o = .jmp .ret)/\e.at t=r)):fu P G (.fn (.func k) [] []) args r:=O8 hm hf hn hc hlen ha hr ht h.out
theorem HF {k : Nat}{fn : Func}{refs : List Nat}{lf : bh}{args : List LV}{R : LV -> Prop}{t : Nat}(hm : P.follows .mixedOrders = true) (hf : P.funcs[k]? = some fn) (hn : (fn.name == "runtime.NumGoroutine") = false) (hc : aL P G refs fn = some lf)
 (hlen:args.length<=lf.ntmps) (ha:LV.closed.au args=true) (ht:lf.results=[.tmp t])
 (h:Cd P G false lf.ntmps lf.body (fm args) St.empty (λo e s=>(o = .normal∨o = .jmp .ret)/\∃ r s',cY bp (e.at t) s=some (r,s')/\r.closed=true/\R r)):ny P G (.fn (.func k) [] []) args R:=HJ hm hf hn hc hlen ha ht h.out
end
def keep (e:Env):List Nat->Env
 | []=>.nil
 | t::r=>Tr.set (keep e r) t (e.at t)
theorem fq (k:IntKind) (n:Int):cells? (.int k n)=some [.int k n]:=rfl
theorem zM (i:Nat):cells? (.aR i)=some [.aR i]:=rfl
theorem bJ:St.empty.n=0:=rfl
section
variable {P:Program}{G:bP}{K:Env->St->Prop}{l:List bC}{e:Env}{s:St}{d:Nat}{g:Option (Nat × Bool)}{fl:Bool}
theorem TJ {z:List LV}(a:aK g e=some true) (k:W P G K l (Tr.set e d (.aO s.n 0)) (s.new (.cells .mut z))):W P G K (⟨some d, .alloc z,g,[],fl⟩::l) e s:=q_op a rfl rfl k
theorem q_ext {x:bF}{vs:List LV}{i:Nat}{v:LV}(a:aK g e=some true) (hx:x.ev e = .cE vs) (b:vs[i]? = some v) (k:W P G K l (Tr.set e d v) s):W P G K (⟨some d, .ext x i,g,[],fl⟩::l) e s:=
 q_op a rfl (by simp[bq.run,hx,b]) k
theorem LI {aZ:Nat}{z:List LV}(a:aK g e=some true) (k:W P G K l (Tr.set e d (.aE s.n 0 0 aZ)) (s.new (.cells .mut []))):W P G K (⟨some d, .bu aZ 0 z [],g,[],fl⟩::l) e s:=
 q_op a rfl (by simp[bq.run,aU,bt,rep]) k
theorem LH {z:LV}{x:bF}{v:LV}(a:aK g e=some true) (hx:x.ev e=v) (b:bf v=true) (k:W P G K l (Tr.set e d (.aE s.n 0 1 1)) (s.new (.cells .mut [v]))):W P G K (⟨some d, .bu 1 1 [z] [(0,(1,x))],g,[],fl⟩::l) e s:=
 q_op a rfl (by simp[bq.run,aU,bt,rep,hx,tN b,splice]) k
theorem eD {aZ b:Nat}{x y:bF}{xv yv r:LV}{n:Nat}{new a:List LV}{s1 s2:St}(c:aK g e=some true) (hx:x.ev e=xv) (f:y.ev e=yv) (h:o8 yv=some n) (i:rowOf s aZ n yv=some new) (j:gC new s=(a,s1))
 (m:bT aZ b xv a n s1=some (r,s2)) (k:W P G K l (Tr.set e d r) s2):W P G K (⟨some d, .append aZ b x y,g,[],fl⟩::l) e s:=
 q_op c rfl (by simp[bq.run,hx,f,h,i,j,m]) k
end
theorem Lz {s:St}{m:Nat}{md:Md}{v:LV}(h:s.get m=some (.cells md [v])):rowOf s 1 1 (.aE m 0 1 1)=some [v]:=by simp[rowOf,h]
theorem AU {v:LV}{s:St}(h:v.closed=true):gC [v] s=([v],s):=by
 simp[gC,cY.cM,bk h]
theorem ie:∀ {l:List LV}{s:St}{n:Nat},LV.closed.au l=true->cY.cM (cY (n+1)) l s=some (l,s):=by
 intro l;induction l with
 | nil=>intro s n _;rfl
 | cons v l ih=>
   intro s n h;simp only[LV.closed.au,Bool.and_eq_true]at h;simp[cY.cM,jw h.1,ih h.2]
theorem FU {s:St}{j len:Nat}{cs:List LV}(h:s.get j=some (.cells .mut cs)) (hl:cs.length=len) (a:LV.closed.au cs=true):cY bp (.aE j 0 len 1) s=some (.aF cs len,s.put j (.cells .app cs)):=by
 have:cY bp (.aE j 0 len 1) s=cY (38+1+1) (.aE j 0 len 1) s:=rfl;rw[this];unfold cY;simp only[LV.closed,Bool.false_eq_true,if_false,h,Nat.zero_add,Nat.mul_one,hl,Nat.le_refl,if_true,ie a,Option.bind_eq_bind,Option.bind_some,List.drop_zero,Option.some.injEq,Prod.mk.injEq,and_true];rw[List.take_of_length_le om]
theorem A1 {b:Nat}{v:LV}{s:St}(a:b<=2 ^ 20):bT 1 b .aq [v] 1 s=some (.aE s.n 0 1 1,s.new (.cells .mut [v])):=by
 have:1*b<=big:=by unfold big;omega
 simp[bT];unfold big;omega
theorem Dr {b j k:Nat}{v:LV}{s:St}{cs:List LV}(h:s.get j=some (.cells .mut cs)) (hl:cs.length=k) (a:b<=2 ^ 10) (c:k<=2 ^ 20) :
 bT 1 b (.aE j 0 k 1) [v] 1 s=some (.aE s.n 0 (k+1) 1,(s.put j (.cells .ro [])).new (.cells .mut (cs++[v]))):=by
 have:(k+1)*b<=big:=by
  have:(k+1)*b<=(2 ^ 20+1)*2 ^ 10:=Nat.mul_le_mul om a;unfold big;omega
 simp only[bT,if_true,h,Nat.zero_add,Nat.mul_one,hl,Nat.le_refl,this,List.length_cons,List.length_nil,and_self,List.drop_zero];rw[List.take_of_length_le om];rfl
theorem gQ {s:St}{j len:Nat}{cs:List LV}(n:Nat) (h:s.get j=some (.cells .mut cs)) (hl:cs.length=len) (a:LV.closed.au cs=true):cY (n+2) (.aE j 0 len 1) s=some (.aF cs len,s.put j (.cells .app cs)):=by
 unfold cY;simp only[LV.closed,Bool.false_eq_true,if_false,h,Nat.zero_add,Nat.mul_one,hl,Nat.le_refl,if_true,ie a,Option.bind_eq_bind,Option.bind_some,List.drop_zero,Option.some.injEq,Prod.mk.injEq,and_true];rw[List.take_of_length_le om]
theorem VE {s s':St}{cs cs':List LV}(n:Nat) (a:(LV.agg cs).closed=false) (h:cY.cM (cY n) cs s=some (cs',s')):cY (n+1) (.agg cs) s=some (.agg cs',s'):=by
 unfold cY;simp[a,h]
theorem dS {P : Program}{G : bP}{k : Nat}{fn : Func}{refs : List Nat}{lf : bh}{args : List LV}{R : LV -> Prop}(hf : P.funcs[k]? = some fn) (hn : (fn.name == "runtime.NumGoroutine") = false) (hc : aL P G refs fn = some lf)
 (hlen:args.length<=lf.ntmps) (ha:LV.closed.au args=true)
 (h:Cd P G false lf.ntmps lf.body (fm args) St.empty (λo e s=>(o = .normal∨o = .jmp .ret)/\∃ v,aW lf.results e s=some v/\∃ r s',cY bp v s=some (r,s')/\r.closed=true/\R r)):ny P G (.fn (.func k) [] []) args R:=
 ⟨rfl,ha,bM (first:=[]) (caps:=[]) hf hn hc (by simpa using hlen) (by simpa using h.out)⟩
theorem lk:(∀ (e:Env) (i:Nat),(bF.t i).ev e=e.at i)/\(∀ (e:Env) (v:LV),(bF.c v).ev e=v)/\(∀ (e:Env) (i j:Nat) (v:LV),Env.at (Tr.set e i v) j=if j=i then v else Env.at e j) :=
 ⟨λ_ _=>rfl,λ_ _=>rfl,Env.rC⟩
theorem Ws:(∀ {v:LV}{s:St},v.closed=true->cY bp v s=some (v,s))/\(∀ cs:List LV,cells? (.agg cs)=if cs.all bf then some cs else none)/\(∀ {v:LV},bf v=true->cells? v=some [v]) /\
 (∀ (k:IntKind) (n:Int),bf (.int k n)=true)/\(∀ b:Bool,bf (.bool b)=true)/\(∀ s:ByteArray,bf (.str s)=true)/\bf .aq=true/\bf .zs=true/\(∀ (cs:List LV) (n:Nat),bf (.aF cs n)=true) /\
 (∀ i o n e:Nat,bf (.aE i o n e)=true)/\(∀ i o:Nat,bf (.aO i o)=true)/\(∀ (cs:List LV) (o:Nat),bf (.aY cs o)=true)/\(∀ i:Nat,bf (.aR i)=true)/\(∀ (f:Fn) (a b:List LV),bf (.fn f a b)=true) :=
 ⟨bk,B8,tN,Uw,Ql,Uv,Qj,YC,Qg,Qf,Qh,Qi,Qk,YD⟩
theorem dM:(∀ n:Nat,0+n=n)/\(∀ n:Nat,n+0=n)/\(∀ n:Nat,n*1=n)/\(∀ n:Nat,(n<=n)=True)/\((!true)=false)/\((!false)=true)/\((false=true)=False)/\((true=false)=False)/\(∀ b:Bool,(b && b)=b) :=
 ⟨Nat.zero_add,Nat.add_zero,Nat.mul_one,λn=>by simp,rfl,rfl,by simp,by simp,Bool.and_self⟩
theorem rH:(∀ (α:Type) (x:α) (l:List α),(x::l)[0]? = some x)/\(∀ (α:Type) (x:α) (l:List α) (i:Nat),(x::l)[i+1]? = l[i]?)/\(∀ (α:Type) (x:α) (l:List α),(x::l).length=l.length+1)/\(∀ α:Type,([]:List α).length=0) /\
 (∀ (α:Type) (l:List α),l.drop 0=l)/\(∀ (α:Type) (x:α) (l:List α) (i:Nat),(x::l).drop (i+1)=l.drop i)/\(∀ (α:Type) (x:α) (l:List α) (i:Nat),(x::l).take (i+1)=x::l.take i)/\(∀ (α:Type) (l:List α),l.take 0=[])/\(∀ (α:Type) (i:Nat),([]:List α).take i=[]) /\
 (∀ (α:Type) (p:α->Bool) (x:α) (l:List α),(x::l).all p=(p x && l.all p))/\(∀ (α:Type) (p:α->Bool),([]:List α).all p=true) /\
 (∀ (α b:Type) (a:α) (f:α->Option b),(some a).bind f=f a)/\(∀ (α b:Type) (a:α) (f:α->b),(some a).map f=some (f a))/\(∀ (α b:Type) (x:Option α) (f:α->Option b),(x >>= f)=x.bind f) :=
 ⟨λ_ _ _=>rfl,λ_ _ _ _=>rfl,λ_ _ _=>rfl,λ_=>rfl,λ_ _=>rfl,λ_ _ _ _=>rfl,λ_ _ _ _=>rfl,λ_ _=>rfl,λ_ i=>by cases i<;>rfl,λ_ _ _ _=>rfl,λ_ _=>rfl,λ_ _ _ _=>rfl,λ_ _ _ _=>rfl,λ_ _ _ _=>rfl⟩
theorem u6:type_of% lk/\type_of% Ws/\type_of% dM/\type_of% rH/\(∀ (α:Type) (a b:α),(if False then a else b)=b)/\(∀ (α:Type) (a b:α),(if True then a else b)=a):=⟨lk,Ws,dM,rH,λ_ _ _=>if_neg id,λ_ _ _=>if_pos trivial⟩
theorem j7 {P:Program}{G:bP}{K:Env->St->Prop}{l:List bC}{e:Env}{s s':St}{o:bC}{v:LV}(a:aK o.guard e=some true) (b:o.op.run e s=some (v,s')) (hs:dP o.fl o.op e=true) (c:dG o.jT (e.put o.dst v) s')
 (h:W P G K l (e.put o.dst v) s'):W P G K (o::l) e s:=⟨JV a b hs c h.out⟩
theorem gw {l:List LV}{s:St}(h:LV.closed.au l=true):gC l s=(l,s):=by
 have:cY.cM (cY bp) l s=some (l,s):=ie h;simp[gC,this]
theorem yc {s:St}{cs:List LV}{n:Nat}(h:cs.length=n):rowOf s 1 n (.aF cs n)=some cs:=by
 simp[rowOf,h];exact List.take_of_length_le om
theorem sZ {b j k n:Nat}{new:List LV}{s:St}{cs:List LV}(h:s.get j=some (.cells .mut cs)) (hl:cs.length=k) (a:new.length=n) (c:b<=2 ^ 10) (f:k+n<=2 ^ 20) :
 bT 1 b (.aE j 0 k 1) new n s=some (.aE s.n 0 (k+n) 1,(s.put j (.cells .ro [])).new (.cells .mut (cs++new))):=by
 have:(k+n)*b<=big:=by
  have:(k+n)*b<=2 ^ 20*2 ^ 10:=Nat.mul_le_mul f c;unfold big;omega
 simp only[bT,if_true,h,Nat.zero_add,Nat.mul_one,hl,Nat.le_refl,this,a,and_self,List.drop_zero];rw[List.take_of_length_le om];rfl
theorem eF {aZ j off len i:Nat}{k:IntKind}{s:St}(h:(i:Int)<(len:Int)):yO aZ (.aE j off len aZ) (.int k (i:Int)) s=some (.aO j (off+i*aZ),s):=by
 have a:i<len:=by omega
 simp[yO,idxOf,a]
theorem OY {P:Program}{G:bP}{K:Env->St->Prop}{l:List bC}{e:Env}{s:St}{fl:Bool}{a x:bF}{i o n:Nat}{cs vs cs':List LV}{v:LV}(b:a.ev e = .aO i o) (hx:x.ev e=v) (c:cells? v=some vs) (hs:s.get i=some (.cells .mut cs)) (hl:vs.length=n) (f:o+n<=cs.length) (j:splice cs o vs=cs')
 (h:W P G K l e (s.put i (.cells .mut cs'))):W P G K (⟨none, .store n a x,none,[],fl⟩::l) e s:=
 j7 (v:=eC) rfl (by simp only[bq.run,b,hx,c,hs];rw[if_pos ⟨hl,f⟩,j]) rfl trivial h
section
variable {P:Program}{G:bP}
theorem TE {rd:Bool}{nt:Nat}{c:bx}{e:Env}{s:St}{Q:Out->Env->St->Prop}(Q':Out->Env->St->Prop) (h:Cd P G rd nt c e s Q') (a:∀ o e s,Q' o e s->Q o e s):Cd P G rd nt c e s Q:=⟨aX.mono h.out a⟩
end
def cz (n:Option Nat) (p:LV) (s:St):Option LV:=
 match p with
 | .aY cs off=>bG n cs off
 | .aO id off=>match s.get id with | some (.cells _ cs)=>bG n cs off | _=>none
 | _=>none
def rT (off:Nat):LV->Option LV
 | .aY cs o=>some (.aY cs (o+off))
 | .aO i o=>some (.aO i (o+off))
 | _=>none
def xk (n:Nat) (p v:LV) (s:St):Option St:=
 match p,cells? v with
 | .aO id off,some vs=>
   match s.get id with
   | some (.cells .mut cs)=>if vs.length=n/\off+n<=cs.length then some (s.put id (.cells .mut (splice cs off vs))) else none
   | _=>none
 | _,_=>none
def KV (off:Nat) (n:Option Nat):LV->Option LV
 | .agg cs=>bG n cs off
 | _=>none
def Br:Bool->LV->LV->LV
 | true,a,_=>a
 | false,_,b=>b
def PD:LV->Bool
 | .aY .. => true
 | .aO .. => true
 | .fn (.func _) _ _=>true
 | .rG _=>true
 | _=>false
theorem iX {cs:List LV}{o:Nat}{v:LV}{s:St}(h:cs[o]? = some v):cz none (.aY cs o) s=some v:=h
theorem iW {m:Md}{cs:List LV}{i o:Nat}{v:LV}{s:St}(hs:s.get i=some (.cells m cs)) (h:cs[o]? = some v):cz none (.aO i o) s=some v:=by
 simp only[cz,hs];exact h
theorem rM {cs vs:List LV}{o n:Nat}{s:St}(a:Nat.ble (o+n) cs.length=true) (h:(cs.drop o).take n=vs):cz (some n) (.aY cs o) s=some (.agg vs):=by
 simp[cz,bG,Nat.le_of_ble_eq_true a,h]
theorem BG {m:Md}{cs vs:List LV}{i o n:Nat}{s:St}(hs:s.get i=some (.cells m cs)) (a:Nat.ble (o+n) cs.length=true) (h:(cs.drop o).take n=vs):cz (some n) (.aO i o) s=some (.agg vs):=by
 simp[cz,bG,hs,Nat.le_of_ble_eq_true a,h]
theorem Ba {cs vs cs':List LV}{i o n:Nat}{v:LV}{s:St}(a:cells? v=some vs) (hs:s.get i=some (.cells .mut cs)) (hl:Nat.beq vs.length n=true) (b:Nat.ble (o+n) cs.length=true) (c:splice cs o vs=cs'):xk n (.aO i o) v s=some (s.put i (.cells .mut cs')):=by
 simp only[xk,a,hs];rw[if_pos ⟨Nat.eq_of_beq_eq_true hl,Nat.le_of_ble_eq_true b⟩,c]
section
variable {P:Program}{G:bP}{K:Env->St->Prop}{l:List bC}{e:Env}{s:St}{d:Nat}{g:Option (Nat × Bool)}{fl:Bool}
theorem Ju {x:bF}{off:Nat}{p r:LV}(b:aK g e=some true) (hx:x.ev e=p) (a:rT off p=some r) (k:W P G K l (Tr.set e d r) s):W P G K (⟨some d, .sY off x,g,[],fl⟩::l) e s:=
 q_op b rfl (by
  cases p<;>simp only[rT,reduceCtorEq,Option.some.injEq]at a;all_goals (subst a;simp[bq.run,hx])) k
theorem Oh {x:bF}{n:Option Nat}{p v:LV}(b:aK g e=some true) (hx:x.ev e=p) (a:cz n p s=some v) (k:W P G K l (Tr.set e d v) s):W P G K (⟨some d, .load n x,g,[],fl⟩::l) e s:=
 q_op b (by cases fl<;>rfl) (by
  cases p<;>simp only[cz,reduceCtorEq]at a
  ·simp[bq.run,hx,a]
  ·rename_i i o;simp only[bq.run,hx];split at a
   ·rename_i h;simp[h,a]
   ·cases a) k
theorem VX {x:bF}{v:LV}{n:Nat}(a:aK g e=some true) (hx:x.ev e=v) (b:ji v=some n) (k:W P G K l (Tr.set e d (.int .i64 n)) s):W P G K (⟨some d, .yL x,g,[],fl⟩::l) e s:=q_len a hx b k
theorem u_un {op:UnOp}{x:bF}{v r:LV}(a:aK g e=some true) (hx:x.ev e=v) (b:iI op v=some r) (k:W P G K l (Tr.set e d r) s):W P G K (⟨some d, .un op x,g,[],fl⟩::l) e s:=
 q_op a rfl (by simp[bq.run,hx,b]) k
theorem Jt {x:bF}{off:Nat}{n:Option Nat}{v r:LV}(b:aK g e=some true) (hx:x.ev e=v) (a:KV off n v=some r) (k:W P G K l (Tr.set e d r) s):W P G K (⟨some d, .field off n x,g,[],fl⟩::l) e s:=
 q_op b rfl (by
  cases v<;>simp only[KV,reduceCtorEq]at a;simp[bq.run,hx,a]) k
theorem u_conv {x:bF}{k a:IntKind}{n m:Int}(b:aK g e=some true) (hx:x.ev e = .int a n) (c:k.wrap n=m) (h:W P G K l (Tr.set e d (.int k m)) s):W P G K (⟨some d, .k9 k x,g,[],fl⟩::l) e s:=
 q_op b rfl (by simp[bq.run,hx,c]) h
theorem u_mm {b:Bool}{x y:bF}{v w r:LV}(a:aK g e=some true) (hx:x.ev e=v) (c:y.ev e=w) (f:eZ b [v,w]=some r) (k:W P G K l (Tr.set e d r) s):W P G K (⟨some d, .ju b [x,y],g,[],fl⟩::l) e s:=
 q_op a rfl (by simp[bq.run,hx,c,f]) k
theorem PR {k:IntKind}{a b:Int} : eZ true [.int k a, .int k b]=some (.int k (max a b)):=by
 have hm:(if a<b then b else a)=max a b:=by rw[Int.max_def];split<;>split<;>omega
 simp[eZ,eZ.go,hm]
theorem PN {k:IntKind}{a b:Int} : eZ false [.int k a, .int k b]=some (.int k (min a b)):=by
 have hm:(if b<a then b else a)=min a b:=by rw[Int.min_def];split<;>split<;>omega
 simp[eZ,eZ.go,hm]
theorem Od {c x y:bF}{t:Bool}{a b v:LV}(h:aK g e=some true) (i:c.ev e = .bool t) (hx:x.ev e=a) (j:y.ev e=b) (f:Br t a b=v) (k:W P G K l (Tr.set e d v) s):W P G K (⟨some d, .pick c x y,g,[],fl⟩::l) e s:=
 q_op h rfl (by cases t<;>simp only[Br]at f<;>simp[bq.run,i,hx,j,f]) k
theorem VY {x:bF}{vs:List LV}{i:Nat}{v:LV}(a:aK g e=some true) (hx:x.ev e = .cE vs) (b:vs[i]? = some v) (k:W P G K l (Tr.set e d v) s):W P G K (⟨some d, .ext x i,g,[],fl⟩::l) e s:=q_ext a hx b k
theorem Jq {n:Nat}{a x:bF}{p v:LV}{s':St}(c:a.ev e=p) (hx:x.ev e=v) (b:xk n p v s=some s') (h:W P G K l e s'):W P G K (⟨none, .store n a x,none,[],fl⟩::l) e s:=
 j7 (v:=eC) rfl (by
  unfold xk at b;split at b
  ·rename_i h1 h2;simp only[bq.run,c,hx,h2];split at b
   ·rename_i h3;simp only[h3];split at b
    ·rename_i f;cases b;rw[if_pos f]
    ·cases b
   ·cases b
  ·cases b) (by cases fl<;>rfl) trivial h
theorem D0 {x:bF}{v:LV}(h:aK g e=some true) (hx:x.ev e=v) (c:PD v=true) (k:W P G K l (Tr.set e d v) s):W P G K (⟨some d, .vD x,g,[],fl⟩::l) e s:=
 q_op h rfl (by
  cases v with
  | fn f a b=>cases f<;>first | (simp[PD]at c;done) | (simp[bq.run,hx];done)
  | _=>first | (simp[PD]at c;done) | (simp[bq.run,hx];done)) k
theorem Oe {f:Fn}{a b:List bF}{c h:List LV}(i:aK g e=some true) (j:a.map (·.ev e)=c) (m:b.map (·.ev e)=h) (k:W P G K l (Tr.set e d (.fn f c h)) s):W P G K (⟨some d, .uk f a b,g,[],fl⟩::l) e s:=
 q_op i rfl (by simp[bq.run,j,m]) k
theorem u_skip {op:bq}{i:Nat}{b c:Bool}{jT:List (Nat × Option (Nat × Bool) × bq)}(h:e.at i = .bool c) (a:(c == b)=false) (k:W P G K l (Tr.set e d (.cE [])) s):W P G K (⟨some d,op,some (i,b),jT,fl⟩::l) e s:=q_skip rfl h a k
theorem Js {op:bq}{i:Nat}{b c:Bool}{jT:List (Nat × Option (Nat × Bool) × bq)}(h:e.at i = .bool c) (a:(c == b)=false) (k:W P G K l e s):W P G K (⟨none,op,some (i,b),jT,fl⟩::l) e s:=q_skip rfl h a k
theorem wG2 {i:Nat}{b:Bool}{vs:List LV}(h:e.at i = .cE vs):aK (some (i,b)) e=some false:=by simp[aK,h]
theorem Jr {op:bq}{i:Nat}{b:Bool}{vs:List LV}{jT:List (Nat × Option (Nat × Bool) × bq)}(h:e.at i = .cE vs) (k:W P G K l (Tr.set e d (.cE [])) s):W P G K (⟨some d,op,some (i,b),jT,fl⟩::l) e s:=⟨yj (wG2 h) k.out⟩
theorem DZ {op:bq}{i:Nat}{b:Bool}{vs:List LV}{jT:List (Nat × Option (Nat × Bool) × bq)}(h:e.at i = .cE vs) (k:W P G K l e s):W P G K (⟨none,op,some (i,b),jT,fl⟩::l) e s:=⟨yj (wG2 h) k.out⟩
theorem VZ {x:bF}{v:LV}{cs:List LV}(hx:x.ev e=v) (a:cells? v=some cs) (b:v.closed=true) (hl:Nat.beq cs.length 0=false) (k:W P G K l (Tr.set e d (.aY cs 0)) s):W P G K (⟨some d, .box true x,none,[],false⟩::l) e s:=
 q_op rfl rfl (by
  have h0:cs.length≠0:=λh=>by rw[h]at hl;cases hl
  have h1:cs≠[]:=λh=>h0 (by rw[h];rfl);simp[bq.run,hx,bk b,a,h1]) k
theorem Ol {x:bF}{v:LV}{cs:List LV}{m:Nat}(hx:x.ev e=v) (a:cells? v=some cs) (b:s.n=m) (k:W P G K l (Tr.set e d (.aO m 0)) (s.new (.cells .mut cs))):W P G K (⟨some d, .box false x,none,[],fl⟩::l) e s:=by
 subst b;exact q_op rfl rfl (by simp[bq.run,hx,a]) k
theorem ev_I {x:bF}{v:LV}(h:x.ev e=v):x.ev e=v:=h
theorem sN {i:Nat}{v:LV}(h:e.at i=v):e.at i=v:=h
theorem WA {a:List bF}{v:List LV}(h:a.map (·.ev e)=v):a.map (·.ev e)=v:=h
theorem n_I {m:Nat}(h:s.n=m):s.n=m:=h
theorem K3 {v:LV}{cs:List LV}(h:cells? v=some cs):cells? v=some cs:=h
theorem Gh {v:LV}(h:v.closed=true):v.closed=true:=h
theorem Pj {t:Bool}{a b v:LV}(h:Br t a b=v):Br t a b=v:=h
theorem N7 {k:IntKind}{n m:Int}(h:k.wrap n=m):k.wrap n=m:=h
theorem fa_I {off:Nat}{p r:LV}(h:rT off p=some r):rT off p=some r:=h
theorem u_lss {x y:bF}{a b:LV}{c:Bool}(f:aK g e=some true) (hx:x.ev e=a) (h:y.ev e=b) (i:kr .lss a b=some (.bool c)) (k:∀ b,c=b->W P G K l (Tr.set e d (.bool b)) s):W P G K (⟨some d, .bin .lss x y,g,[],fl⟩::l) e s:=Bn f hx h i k
theorem u_leq {x y:bF}{a b:LV}{c:Bool}(f:aK g e=some true) (hx:x.ev e=a) (h:y.ev e=b) (i:kr .leq a b=some (.bool c)) (k:∀ b,c=b->W P G K l (Tr.set e d (.bool b)) s):W P G K (⟨some d, .bin .leq x y,g,[],fl⟩::l) e s:=Bn f hx h i k
theorem u_gtr {x y:bF}{a b:LV}{c:Bool}(f:aK g e=some true) (hx:x.ev e=a) (h:y.ev e=b) (i:kr .gtr a b=some (.bool c)) (k:∀ b,c=b->W P G K l (Tr.set e d (.bool b)) s):W P G K (⟨some d, .bin .gtr x y,g,[],fl⟩::l) e s:=Bn f hx h i k
theorem u_geq {x y:bF}{a b:LV}{c:Bool}(f:aK g e=some true) (hx:x.ev e=a) (h:y.ev e=b) (i:kr .geq a b=some (.bool c)) (k:∀ b,c=b->W P G K l (Tr.set e d (.bool b)) s):W P G K (⟨some d, .bin .geq x y,g,[],fl⟩::l) e s:=Bn f hx h i k
theorem u_eql {x y:bF}{a b:LV}{c:Bool}(f:aK g e=some true) (hx:x.ev e=a) (h:y.ev e=b) (i:kr .eql a b=some (.bool c)) (k:∀ b,c=b->W P G K l (Tr.set e d (.bool b)) s):W P G K (⟨some d, .bin .eql x y,g,[],fl⟩::l) e s:=Bn f hx h i k
theorem u_neq {x y:bF}{a b:LV}{c:Bool}(f:aK g e=some true) (hx:x.ev e=a) (h:y.ev e=b) (i:kr .neq a b=some (.bool c)) (k:∀ b,c=b->W P G K l (Tr.set e d (.bool b)) s):W P G K (⟨some d, .bin .neq x y,g,[],fl⟩::l) e s:=Bn f hx h i k
theorem Jv {z:List LV}{m:Nat}(a:aK g e=some true) (b:s.n=m) (k:W P G K l (Tr.set e d (.aO m 0)) (s.new (.cells .mut z))):W P G K (⟨some d, .alloc z,g,[],fl⟩::l) e s:=by
 subst b;exact TJ a k
theorem A8 {aZ:Nat}{z:List LV}{m:Nat}(a:aK g e=some true) (b:s.n=m) (k:W P G K l (Tr.set e d (.aE m 0 0 aZ)) (s.new (.cells .mut []))):W P G K (⟨some d, .bu aZ 0 z [],g,[],fl⟩::l) e s:=by
 subst b;exact LI a k
end
theorem u5:(∀ cs,(LV.agg cs).closed=LV.closed.au cs)/\LV.closed.au []=true/\(∀ v r,LV.closed.au (v::r)=(v.closed && LV.closed.au r))/\(∀ k n,(LV.int k n).closed=true)/\(∀ b,(LV.bool b).closed=true)/\(∀ b,(LV.str b).closed=true)/\LV.aq.closed=true/\LV.zs.closed=true/\(∀ cs n,(LV.aF cs n).closed=LV.closed.au cs)/\(∀ b:Bool,(b && b)=b)/\(∀ b:Bool,(true && b)=b) :=
 ⟨λ_=>rfl,rfl,λ_ _=>rfl,λ_ _=>rfl,λ_=>rfl,λ_=>rfl,rfl,rfl,λ_ _=>rfl,Bool.and_self,Bool.true_and⟩
theorem u1:(∀ (s:St) (id j:Nat) (b:jU),(s.put id b).get j=if j=id then some b else s.get j)/\(∀ (s:St) (j:Nat) (b:jU),(s.new b).get j=if j=s.n then some b else s.get j)/\(∀ (s:St) (id:Nat) (b:jU),(s.put id b).n=s.n)/\(∀ (s:St) (b:jU),(s.new b).n=s.n+1)/\St.empty.n=0/\(∀ n:Nat,0+n=n)/\(∀ n:Nat,n*1=n) :=
 ⟨St.az,St.aA,St.eo,St.fW,rfl,Nat.zero_add,Nat.mul_one⟩
theorem u2:(∀ (α:Type) (x:α) (l:List α),(x::l)[0]? = some x)/\(∀ (α:Type) (x:α) (l:List α) (i:Nat),(x::l)[i+1]? = l[i]?)/\(∀ (α:Type) (x:α) (l:List α),(x::l).length=l.length+1)/\(∀ α:Type,([]:List α).length=0) /\
 (∀ (α:Type) (l:List α),l.drop 0=l)/\(∀ (α:Type) (x:α) (l:List α) (i:Nat),(x::l).drop (i+1)=l.drop i)/\(∀ (α:Type) (x:α) (l:List α) (i:Nat),(x::l).take (i+1)=x::l.take i)/\(∀ (α:Type) (l:List α),l.take 0=[])/\(∀ (α:Type) (i:Nat),([]:List α).take i=[]) :=
 ⟨λ_ _ _=>rfl,λ_ _ _ _=>rfl,λ_ _ _=>rfl,λ_=>rfl,λ_ _=>rfl,λ_ _ _ _=>rfl,λ_ _ _ _=>rfl,λ_ _=>rfl,λ_ i=>by cases i<;>rfl⟩
theorem u3:(∀ (k:IntKind) (n:Int),cells? (.int k n)=some [.int k n])/\(∀ b:Bool,cells? (.bool b)=some [.bool b])/\(∀ b:ByteArray,cells? (.str b)=some [.str b])/\cells? .aq=some [.aq]/\cells? .zs=some [.zs]/\(∀ (cs:List LV) (n:Nat),cells? (.aF cs n)=some [.aF cs n]) /\
 (∀ i o n z:Nat,cells? (.aE i o n z)=some [.aE i o n z])/\(∀ i o:Nat,cells? (.aO i o)=some [.aO i o])/\(∀ (cs:List LV) (o:Nat),cells? (.aY cs o)=some [.aY cs o])/\(∀ i:Nat,cells? (.aR i)=some [.aR i])/\cells? .cm=some [.cm]/\(∀ (f:Fn) (a b:List LV),cells? (.fn f a b)=some [.fn f a b])/\cells? .eS=some [.eS] :=
 ⟨λ_ _=>rfl,λ_=>rfl,λ_=>rfl,rfl,rfl,λ_ _=>rfl,λ_ _ _ _=>rfl,λ_ _=>rfl,λ_ _=>rfl,λ_=>rfl,rfl,λ_ _ _=>rfl,rfl⟩
theorem u4:(∀ cs:List LV,cells? (.agg cs)=if cs.all bf then some cs else none)/\(∀ {v:LV},bf v=true->cells? v=some [v])/\(∀ (k:IntKind) (n:Int),bf (.int k n)=true)/\(∀ b:Bool,bf (.bool b)=true)/\(∀ b:ByteArray,bf (.str b)=true)/\bf .aq=true/\bf .zs=true/\(∀ (cs:List LV) (n:Nat),bf (.aF cs n)=true)/\(∀ i o n z:Nat,bf (.aE i o n z)=true) /\
 (∀ (p:LV->Bool) (x:LV) (l:List LV),(x::l).all p=(p x && l.all p))/\(∀ p:LV->Bool,([]:List LV).all p=true)/\(∀ b:Bool,(b && b)=b)/\(∀ b:Bool,(true && b)=b) :=
 ⟨B8,tN,λ_ _=>rfl,λ_=>rfl,λ_=>rfl,rfl,rfl,λ_ _=>rfl,λ_ _ _ _=>rfl,λ_ _ _=>rfl,λ_=>rfl,Bool.and_self,Bool.true_and⟩
structure Jl {α:Type}(R:LV->α->Prop) (d:α) (v:LV) (l:List α) (vs:List LV):Prop where
  sl:Sl v vs l.length
  Oa:vs.length=l.length
  len:l.length<=maxLen
  row:∀ i,i<l.length->R (vs.getD i .top) (l.getD i d)
section
variable {α:Type}{R:LV->α->Prop}{d:α}{v:LV}{l:List α}{vs:List LV}
theorem Jl.get (h:Jl R d v l vs) {i:Nat}(a:i<l.length):vs[i]? = some (vs.getD i .top):=by
 have:i<vs.length:=by rw[h.Oa];exact a
 simp[gD,this]
theorem Jl.closed (h:Jl R d v l vs) (a:∀ v x,R v x->v.closed=true):v.closed=true:=
 h.sl.closed (oU λj b=>a _ _ (h.row j (by rw[<- h.Oa];exact b)))
theorem KP {c:CT}(j:∀ v,u0 c v->∃ x,R v x) (h:u0 (.sl [c]) v):∃ l vs,Jl R d v l vs:=by
 cases h with
 | nil=>exact⟨[],[], .nil,rfl,by simp,λi b=>absurd b (Nat.not_lt_zero _)⟩
 | zs=>exact⟨[],[], .zs,rfl,by simp,λi b=>absurd b (Nat.not_lt_zero _)⟩
 | sl f hs=>
   have key:∀ {a:List (List LV)},pz [c] a->∃ ls:List α,ls.length=a.length/\a.flatten.length=a.length/\∀ i,i<ls.length->R (a.flatten.getD i .top) (ls.getD i d):=by
    intro a;induction a with
    | nil=>intro _;exact⟨[],rfl,rfl,λi b=>absurd b (Nat.not_lt_zero _)⟩
    | cons r rs ih=>
      intro h;cases h with
      | cons h hs=>
        obtain⟨ls,h1,h2,h3⟩:=ih hs;cases h with
        | cons h f=>
          cases f;obtain⟨l,hl⟩:=j _ h;refine⟨l::ls,by simp[h1],by simp[h2],λi b=>?_⟩;cases i with
          | zero=>simpa using hl
          | succ i=>simpa using h3 i (by simpa using b)
   obtain⟨ls,h1,h2,h3⟩:=key hs;refine⟨ls,_,?_,by rw[h2,h1],by rw[h1];exact f,h3⟩;rw[h1];exact .aF _ _
end
def dh:List (Int × Bool)->List LV
 | []=>[]
 | m::r=>.int .i64 m.1::.bool m.2::dh r
theorem m0:∀ l:List (Int × Bool),(dh l).length=l.length*2
 | []=>rfl
 | m::r=>by simp only[dh,List.length_cons,m0 r];omega
theorem sU:∀ (a b:List (Int × Bool)),dh (a++b)=dh a++dh b
 | [],b=>rfl
 | m::r,b=>by simp only[List.cons_append,dh,sU r b]
theorem sS:∀ l:List (Int × Bool),LV.closed.au (dh l)=true
 | []=>rfl
 | m::r=>by simp[dh,LV.closed.au,LV.closed,sS r]
theorem mR:∀ {l:List (Int × Bool)}{i:Nat},i<l.length->(dh l)[i*2]? = some (.int .i64 (l.getD i (0,false)).1)
 | m::r,0,_=>rfl
 | m::r,i+1,h=>by
   have:=mR (l:=r) (i:=i) (by simpa using h);rw[show (i+1)*2=i*2+1+1 by omega];simpa[dh] using this
theorem qo:∀ {l:List (Int × Bool)}{i:Nat},i<l.length->(dh l)[i*2+1]? = some (.bool (l.getD i (0,false)).2)
 | m::r,0,_=>rfl
 | m::r,i+1,h=>by
   have:=qo (l:=r) (i:=i) (by simpa using h);rw[show (i+1)*2+1=i*2+1+1+1 by omega];simpa[dh] using this
theorem EW {l:List (Int × Bool)}{i:Nat}(h:i<l.length):((dh l).drop (i*2)).take 2=[.int .i64 (l.getD i (0,false)).1, .bool (l.getD i (0,false)).2]:=by
 have h0:=mR h;have h1:=qo h;have hl:=m0 l;apply List.ext_getElem?;intro j;match j with
 | 0=>simpa using h0
 | 1=>simpa using h1
 | j+2=>simp;omega
structure si (v:LV) (ms:List (Int × Bool)):Prop where
  sl:Sl v (dh ms) ms.length
  len:ms.length<=maxLen
  tQ:∀ x∈ms,bU x.1
theorem si.closed {v:LV}{ms:List (Int × Bool)}(h:si v ms):v.closed=true:=h.sl.closed (sS ms)
theorem IB {v:LV}(h:u0 (.sl [.int .i64, .bool]) v):∃ ms,si v ms:=by
 cases h with
 | nil=>exact⟨[], .nil,by simp,λx hx=>by cases hx⟩
 | zs=>exact⟨[], .zs,by simp,λx hx=>by cases hx⟩
 | sl c hs=>
   have key:∀ {a:List (List LV)},pz [.int .i64, .bool] a->∃ l:List (Int × Bool),a.flatten=dh l/\l.length=a.length/\∀ x∈l,bU x.1:=by
    intro a;induction a with
    | nil=>intro _;exact⟨[],rfl,rfl,λx hx=>by cases hx⟩
    | cons r rs ih=>
      intro h;cases h with
      | cons h hs=>
        obtain⟨l,h1,h2,h3⟩:=ih hs;cases h with | cons h c=>cases c with | cons f c=>
        cases c;cases h with
        | int i=>
          cases f;rename_i n b;refine⟨(n,b)::l,by simp[dh,h1],by simp[h2],λx hx=>?_⟩;rcases List.mem_cons.1 hx with rfl | hx
          ·simpa[Lit.wf,IntKind.min,IntKind.max,IntKind.signed,IntKind.bits,bU] using i
          ·exact h3 x hx
   obtain⟨l,h1,h2,h3⟩:=key hs;refine⟨l,?_,by rw[h2];exact c,h3⟩;rw[h1,<- h2];exact .aF _ _
abbrev rE:=List (Int × Bool)
def Dy (v:LV) (r:List rE):Prop:=∃ vs,Jl si [] v r vs
def z6 (v:LV) (n:List (List rE)):Prop:=∃ vs,Jl Dy [] v n vs
theorem Dy.closed {v:LV}{r:List rE}(h:Dy v r):v.closed=true:=by
 obtain⟨vs,h⟩:=h;exact h.closed λ_ _ h=>h.closed
theorem z6.closed {v:LV}{n:List (List rE)}(h:z6 v n):v.closed=true:=by
 obtain⟨vs,h⟩:=h;exact h.closed λ_ _ h=>h.closed
theorem MH {v:LV}(h:u0 (.sl [.sl [.sl [.int .i64, .bool]]]) v):∃ n,z6 v n:=by
 obtain⟨l,vs,h⟩:=KP (R:=Dy) (d:=[]) (λv h=>by
  obtain⟨l,vs,h⟩:=KP (R:=si) (d:=[]) (λv h=>IB h) h;exact⟨l,vs,h⟩) h
 exact⟨l,vs,h⟩
def gG (n:Nat) (f:Nat->Nat):List LV:=(List.range n).map λ(i:Nat)=>LV.int .i64 (f i:Int)
@[simp] theorem S9 (n:Nat) (f:Nat->Nat):(gG n f).length=n:=by simp[gG]
theorem zD {n i:Nat}{f:Nat->Nat}(h:i<n):(gG n f)[i]? = some (.int .i64 (f i:Int)):=by
 simp[gG,h]
theorem IQ {n i x:Nat}{f g:Nat->Nat}(h:i<n) (b:∀ j,g j=if j=i then x else f j):(gG n f).set i (.int .i64 (x:Int))=gG n g:=by
 apply List.ext_getElem?;intro j;by_cases a:j<n
 ·rw[zD a,b];by_cases e:j=i
  ·subst e;rw[List.getElem?_set_self (by simpa using a),if_pos rfl]
  ·rw[List.getElem?_set_ne om,zD a,if_neg e]
 ·rw[List.getElem?_eq_none (by simpa using a),List.getElem?_eq_none (by simpa using a)]
theorem F3 (n:Nat) (f:Nat->Nat):gG n f=ints ((List.range n).map λi=>(f i:Int)):=by simp[gG,ints]
theorem TD (n:Nat):rep n [LV.int .i64 0]=gG n λ_=>0:=by
 induction n with
 | zero=>rfl
 | succ n ih=>
   have:rep (n+1) [LV.int .i64 0] = .int .i64 0::rep n [LV.int .i64 0]:=by simp[rep,List.replicate_succ]
   rw[this,ih];simp[gG,List.range_succ_eq_map]
theorem JH (n:Nat) (v:LV):rep n [v]=List.replicate n v:=by
 induction n with
 | zero=>rfl
 | succ n ih=>
   have:rep (n+1) [v]=v::rep n [v]:=by simp[rep,List.replicate_succ]
   rw[this,ih,List.replicate_succ]
def Wy (l:List Nat):List LV:=l.map λ(i:Nat)=>LV.int .i64 (i:Int)
@[simp] theorem T9 (l:List Nat):(Wy l).length=l.length:=by simp[Wy]
def aQ (v:LV) (id:Nat):Prop:=∃ o l z,v = .aE id o l z
theorem bE (id:Nat):¬ aQ .aq id:=λ⟨_,_,_,h⟩=>by cases h
theorem aI {id j o l z:Nat} : aQ (.aE j o l z) id↔id=j:=⟨λ⟨_,_,_,h⟩=>by cases h;rfl,λh=>⟨o,l,z,by rw[h]⟩⟩
section
variable {P:Program}{G:bP}{K:Env->St->Prop}{l:List bC}{e:Env}{s:St}{d:Nat}{g:Option (Nat × Bool)}{fl:Bool}
theorem OZ {a x:bF}{i v n y:Nat}{f f':Nat->Nat}(b:a.ev e = .aO i v) (hx:x.ev e = .int .i64 (y:Int)) (hs:s.get i=some (.cells .mut (gG n f))) (c:v<n) (k:∀ j,f' j=if j=v then y else f j)
 (h:∀ s',s'.n=s.n->s'.get i=some (.cells .mut (gG n f'))->(∀ j,j≠i->s'.get j=s.get j)->W P G K l e s'):W P G K (⟨none, .store 1 a x,none,[],fl⟩::l) e s:=
 j7 (v:=eC) rfl (by
  have:v+1<=(gG n f).length:=by simp;omega
  simp only[bq.run,b,hx,fq,hs];rw[if_pos ⟨rfl,this⟩]) (by cases fl<;>rfl) trivial (h (s.put i (.cells .mut (splice (gG n f) v [.int .i64 (y:Int)]))) rfl (by rw[St.az,if_pos rfl];simp only[splice];rw[IQ c k]) λj m=>by rw[St.az,if_neg m])
theorem Og {x y:bF}{n m:Nat}(a:aK g e=some true) (b:s.n=m) (hx:x.ev e = .int .i64 (n:Int)) (c:y.ev e = .int .i64 (n:Int)) (f:n<=1048576) (k:W P G K l (Tr.set e d (.aE m 0 n 1)) (s.new (.cells .mut (gG n λ_=>0)))):W P G K (⟨some d, .cH 1 8 [.int .i64 0] x y,g,[],fl⟩::l) e s:=by
 subst b;refine q_op a rfl ?_ k;have h1:(n:Int)*8<=big:=by unfold big;omega
 have h2:(n:Int)<=big:=by unfold big;omega
 simp only[bq.run,hx,c];rw[if_pos ⟨by omega,Int.le_refl _,h1,h2,rfl⟩,Int.toNat_natCast,TD]
variable {rd:Bool}{nt:Nat}{Q:Out->Env->St->Prop}
theorem lQ {a b:bx}(R:Env->St->Prop) (h:Cd P G rd nt a e s (Cg R Q)) (f:∀ e s,R e s->Cd P G rd nt b e s Q):Cd P G rd nt (.seq a b) e s Q:=
 kE (TE _ h λo e s c=>by cases o with | normal=>exact f e s c | jmp j=>exact c)
end
section
variable {P:Program}{G:bP}{e:Env}{s:St}{rd:Bool}{nt:Nat}{Q:Out->Env->St->Prop}
theorem mN {l:List bC}{b:bx}(h:Cd P G rd nt (.region l) e s (Cg (λe s=>Cd P G rd nt b e s Q) Q)):Cd P G rd nt (.seq (.region l) b) e s Q:=kE h
theorem JN {x:bF}{i:Nat}{b:bx}(h:Cd P G rd nt (.cond x .skip (.exit i)) e s (Cg (λe s=>Cd P G rd nt b e s Q) Q)):Cd P G rd nt (.seq (.cond x .skip (.exit i)) b) e s Q:=kE h
theorem JP {i:Nat}{a b:bx}(h:Cd P G rd nt (.block i a) e s (Cg (λe s=>Cd P G rd nt b e s Q) Q)):Cd P G rd nt (.seq (.block i a) b) e s Q:=kE h
theorem JO {b:bx}(h:Cd P G rd nt .skip e s (Cg (λe s=>Cd P G rd nt b e s Q) Q)):Cd P G rd nt (.seq .skip b) e s Q:=kE h
theorem Ey {l:List bC}{i:Nat}{a b:bx}(h:Cd P G rd nt (.seq (.region l) (.block i a)) e s (Cg (λe s=>Cd P G rd nt b e s Q) Q)):Cd P G rd nt (.seq (.seq (.region l) (.block i a)) b) e s Q:=kE h
theorem Ex {l:List bC}{x:bF}{i:Nat}{b:bx}(h:Cd P G rd nt (.seq (.region l) (.cond x .skip (.exit i))) e s (Cg (λe s=>Cd P G rd nt b e s Q) Q)):Cd P G rd nt (.seq (.seq (.region l) (.cond x .skip (.exit i))) b) e s Q:=kE h
theorem Ew {l:List bC}{x:bF}{i:Nat}{b:bx}(h:Cd P G rd nt (.seq (.region l) (.cond x (.exit i) .skip)) e s (Cg (λe s=>Cd P G rd nt b e s Q) Q)):Cd P G rd nt (.seq (.seq (.region l) (.cond x (.exit i) .skip)) b) e s Q:=kE h
theorem OU {l:List bC}{x:bF}{a b:bx}(h:Cd P G rd nt (.seq (.region l) (.cond x (.seq a .ret) .skip)) e s (Cg (λe s=>Cd P G rd nt b e s Q) Q)):Cd P G rd nt (.seq (.seq (.region l) (.cond x (.seq a .ret) .skip)) b) e s Q:=kE h
theorem OV {l:List bC}{x:bF}{i:Nat}{a b:bx}(h:Cd P G rd nt (.seq (.region l) (.cond x (.seq a (.exit i)) .skip)) e s (Cg (λe s=>Cd P G rd nt b e s Q) Q)):Cd P G rd nt (.seq (.seq (.region l) (.cond x (.seq a (.exit i)) .skip)) b) e s Q:=kE h
end
theorem q_fnC {P : Program}{G : bP}{k : Nat}{fn : Func}{refs : List Nat}{lf : bh}{args caps : List LV}{r : LV}{t : Nat}(hf : P.funcs[k]? = some fn) (hn : (fn.name == "runtime.NumGoroutine") = false) (hc : aL P G refs fn = some lf)
 (hlen:(args++caps).length<=lf.ntmps) (ha:LV.closed.au args=true) (ZZ:LV.closed.au caps=true) (hr:r.closed=true) (ht:lf.results=[.tmp t])
 (h:Cd P G false lf.ntmps lf.body (fm (args++caps)) St.empty (λo e s=>(o = .normal∨o = .jmp .ret)/\e.at t=r)):fu P G (.fn (.func k) [] caps) args r:=
 ⟨by simp[LV.closed,ZZ,LV.closed.au],ha,hr,bM (first:=[]) (caps:=caps) hf hn hc (by simpa using hlen) (by
  simp only[List.nil_append];exact aX.mono h.out λo e s hh=>⟨hh.1,r,by rw[ht];simp[aW,bD,hh.2],s,bk hr⟩)⟩
section
variable {P:Program}{G:bP}{K:Env->St->Prop}{l:List bC}{e:Env}{s:St}{g:Option (Nat × Bool)}{fl:Bool}
theorem TF (a:∀ x∈G,LV.closed.au x.2=true) {d:Nat}{f:bF}{as:List bF}{vs:List LV}{fv r:LV}(b:fu P G fv vs r) (c:aK g e=some true) (i:f.ev e=fv) (j:as.map (·.ev e)=vs)
 (h:W P G K l (Tr.set e d r) s):W P G K (⟨some d, .call f as,g,[],fl⟩::l) e s:=bK c i j (iD a b ⟨trivial,h⟩)
theorem EE (c:∀ x∈G,LV.closed.au x.2=true) {d:Nat}{f:bF}{as:List bF}{vs:List LV}{fv:LV}{a:Bool}(i:fu P G fv vs (.bool a)) (j:aK g e=some true) (k:f.ev e=fv) (m:as.map (·.ev e)=vs)
 (h:∀ b,a=b->W P G K l (Tr.set e d (.bool b)) s):W P G K (⟨some d, .call f as,g,[],fl⟩::l) e s:=TF c i j k m (h a rfl)
end
theorem tf:∀ (vs a b c:List LV),b.length=vs.length->splice (a++b++c) a.length vs=a++vs++c:=by
 intro vs;induction vs with
 | nil => intro a b c h; have : b = [] := by simpa using h
          subst this;simp[splice]
 | cons v vs ih=>
   intro a b c h;cases b with
   | nil=>simp at h
   | cons x b=>
     have f:b.length=vs.length:=by simpa using h
     have:=ih (a++[v]) b c f;simp only[splice];have i:(a++(x::b)++c).set a.length v=a++[v]++b++c:=by simp
     rw[i];simpa using this
theorem lK {vs z:List LV}(h:z.length=vs.length):splice z 0 vs=vs:=by
 have:=tf vs [] z [] h;simpa using this
def ek (s:St) (v:LV) (aZ:Nat) (cells:List LV) (n:Nat):Prop:=cells.length=n*aZ/\((v = .aq/\n=0)∨∃ j,v = .aE j 0 n aZ/\0<n/\j<s.n/\s.get j=some (.cells .mut cells))
theorem ek.nil (s:St) (aZ:Nat):ek s .aq aZ [] 0:=⟨by simp, .inl ⟨rfl,rfl⟩⟩
theorem ek.mono {s s':St}{v:LV}{aZ n:Nat}{cells:List LV}(h:ek s v aZ cells n) (b:s.n<=s'.n) (hs:∀ id,aQ v id->s'.get id=s.get id):ek s' v aZ cells n:=by
 obtain⟨h0,h | ⟨j,h1,h2,h3,a⟩⟩:=h
 ·exact⟨h0, .inl h⟩
 ·exact⟨h0, .inr ⟨j,h1,h2,by omega,by rw[hs j ⟨0,n,aZ,h1⟩];exact a⟩⟩
theorem ek.len {s:St}{v:LV}{aZ n:Nat}{cells:List LV}(h:ek s v aZ cells n):ji v=some n:=by
 obtain⟨_,⟨rfl,rfl⟩ | ⟨j,rfl,_⟩⟩:=h<;>rfl
theorem ek.cell {s:St}{v:LV}{aZ n:Nat}{cells:List LV}(h:ek s v aZ cells n):bf v=true:=by
 obtain⟨_,⟨rfl,rfl⟩ | ⟨j,rfl,_⟩⟩:=h<;>rfl
theorem ek.lt {s:St}{v:LV}{aZ n:Nat}{cells:List LV}(h:ek s v aZ cells n) {id:Nat}(a:aQ v id):id<s.n:=by
 obtain⟨_,⟨rfl,rfl⟩ | ⟨j,rfl,_,h2,_⟩⟩:=h
 ·exact absurd a (bE id)
 ·rw[aI.1 a];exact h2
theorem ek.pos {s:St}{v:LV}{aZ n:Nat}{cells:List LV}(h:ek s v aZ cells n) (a:0<n):∃ j,v = .aE j 0 n aZ/\j<s.n/\s.get j=some (.cells .mut cells):=by
 obtain⟨_,⟨_,h⟩ | ⟨j,h1,_,h2,h3⟩⟩:=h
 ·omega
 ·exact⟨j,h1,h2,h3⟩
section
variable {P:Program}{G:bP}{K:Env->St->Prop}{l:List bC}{e:Env}{s:St}{fl MZ:Bool}
theorem HI {jT:List (Nat × Option (Nat × Bool) × bq)}{a b bytes aZ n:Nat}{x y:bF}{z:List LV}{xv yv:LV}{vs cells:List LV}(hx:x.ev e=xv) (u:cells? xv=some vs) (k:z.length=aZ) (c:vs.length=aZ) (w:LV.closed.au vs=true) (m:y.ev (Tr.set e a (.aE s.n 0 1 aZ))=yv) (hs:ek s yv aZ cells n) (A:dG jT (Tr.set e a (.aE s.n 0 1 aZ)) (s.new (.cells .mut vs))) (B:bytes<=2 ^ 10) (hl:n<=2 ^ 20)
 (h:∀ s' j,s.n<=j->ek s' (.aE j 0 (n+1) aZ) aZ (cells++vs) (n+1)->s.n<=s'.n->(∀ id,id<s.n->¬ aQ yv id->s'.get id=s.get id)->W P G K l (Tr.set (Tr.set e a (.aE s.n 0 1 aZ)) b (.aE j 0 (n+1) aZ)) s') :
 W P G K (⟨some a, .bu aZ 1 z [(0,(aZ,x))],none,jT,fl⟩::⟨some b, .append aZ bytes y (.t a),none,[],MZ⟩::l) e s:=by
 have C:aU (rep 1 z) (bt e [(0,(aZ,x))])=some vs:=by
  have h1:splice z 0 vs=vs:=by
   have:=lK (vs:=vs) (z:=z) (by rw[k,c]);exact this
  have D:rep 1 z=z:=by simp[rep]
  simp only[bt,List.map,D,aU,hx,u,c];rw[if_pos ⟨trivial,by rw[k];omega⟩,h1]
 refine j7 (v:=.aE s.n 0 1 aZ) (s':=s.new (.cells .mut vs)) rfl (by simp only[bq.run,C,Option.bind_eq_bind,Option.bind_some]) (by cases fl<;>rfl) A ?_;simp only[Env.aB];have o:rowOf (s.new (.cells .mut vs)) aZ 1 (.aE s.n 0 1 aZ)=some vs:=by
  simp only[rowOf,St.aA,if_true,Nat.le_refl,Nat.one_mul,Nat.zero_add,c,and_self,List.drop_zero];rw[List.take_of_length_le om]
 have p:gC vs (s.new (.cells .mut vs))=(vs,s.new (.cells .mut vs)):=gw w;have q:(n+1)*bytes<=big:=by
  have:(n+1)*bytes<=(2 ^ 20+1)*2 ^ 10:=Nat.mul_le_mul om B;unfold big;omega
 obtain⟨f,hs⟩:=hs;have r:(cells++vs).length=(n+1)*aZ:=by rw[List.length_append,f,c,Nat.add_mul,Nat.one_mul]
 rcases hs with⟨rfl,rfl⟩ | ⟨j,rfl,h1,h2,h3⟩
 ·have E:cells=[]:=List.length_eq_zero_iff.1 (by rw[f,Nat.zero_mul]);subst E;have i:bT aZ bytes .aq vs 1 (s.new (.cells .mut vs))=some (.aE (s.n+1) 0 1 aZ,(s.new (.cells .mut vs)).new (.cells .mut vs)):=by
   simp only[bT];rw[if_neg om,if_pos ⟨by simpa using q,by rw[c];omega⟩];rfl
  refine eD rfl m (by simp) rfl o p i ?_;refine h _ (s.n+1) om ⟨r, .inr ⟨s.n+1,rfl,by omega,by simp,by rw[St.aA,St.fW,if_pos rfl];rfl⟩⟩ (by simp;omega) λid F _=>?_;rw[St.aA,St.fW,if_neg om,St.aA,if_neg om]
 ·have H:(s.new (.cells .mut vs)).get j=some (.cells .mut cells):=by rw[St.aA,if_neg om];exact h3
  have i:bT aZ bytes (.aE j 0 n aZ) vs 1 (s.new (.cells .mut vs))=some (.aE (s.n+1) 0 (n+1) aZ,((s.new (.cells .mut vs)).put j (.cells .ro [])).new (.cells .mut (cells++vs))):=by
   simp only[bT,if_true,H,Nat.zero_add,f,Nat.le_refl,q,c,Nat.one_mul,and_self,List.drop_zero];rw[List.take_of_length_le om];rfl
  refine eD rfl m (by simp) rfl o p i ?_;refine h _ (s.n+1) om ⟨r, .inr ⟨s.n+1,rfl,by omega,by simp,by rw[St.aA,St.eo,St.fW,if_pos rfl]⟩⟩ (by simp;omega) λid F I=>?_;have dB:id≠j:=λe=>I (aI.2 e);rw[St.aA,St.eo,St.fW,if_neg om,St.az,if_neg dB,St.aA,if_neg om]
theorem qc {a b bytes aZ n:Nat}{x y:bF}{z:List LV}{xv yv:LV}{vs cells:List LV}(hx:x.ev e=xv) (c:cells? xv=some vs) (f:z.length=aZ) (i:vs.length=aZ) (k:LV.closed.au vs=true) (m:y.ev (Tr.set e a (.aE s.n 0 1 aZ))=yv) (hs:ek s yv aZ cells n) (o:bytes<=2 ^ 10) (hl:n<=2 ^ 20)
 (h:∀ s' j,s.n<=j->ek s' (.aE j 0 (n+1) aZ) aZ (cells++vs) (n+1)->s.n<=s'.n->(∀ id,id<s.n->¬ aQ yv id->s'.get id=s.get id)->W P G K l (Tr.set (Tr.set e a (.aE s.n 0 1 aZ)) b (.aE j 0 (n+1) aZ)) s') :
 W P G K (⟨some a, .bu aZ 1 z [(0,(aZ,x))],none,[],fl⟩::⟨some b, .append aZ bytes y (.t a),none,[],MZ⟩::l) e s:=
 HI hx c f i k m hs trivial o hl h
theorem O0 {d M:Nat}{kd:Dw}{zero a:LV}{m k:bF}{es:List (LV × LV)}{r:Option (Nat × LV)}{g:Option (Nat × Bool)}(b:aK g e=some true) (hm:m.ev e = .aR M) (c:k.ev e=a) (f:ki kd a=true) (hs:s.get M=some (.map es)) (i:iE kd a es 0=some r)
 (h:W P G K l (Tr.set e d (.cE [match r with | some x=>x.2 | none=>zero, .bool r.isSome])) s):W P G K (⟨some d, .gp kd zero true m k,g,[],fl⟩::l) e s:=
 q_op b (by cases fl<;>rfl) (by
  simp only[bq.run,c,f,if_true,hm,hs,i,Option.bind_eq_bind,Option.bind_some];cases r<;>rfl) h
theorem Hl {M:Nat}{kd:Dw}{zero a:LV}{m k:bF}{es:List (LV × LV)}{r:Option (Nat × LV)}(hm:m.ev e = .aR M) (b:k.ev e=a) (c:ki kd a=true) (hs:s.get M=some (.map es)) (f:iE kd a es 0=some r) :
 (bq.gp kd zero false m k).run e s=some (match r with | some x=>x.2 | none=>zero,s):=by
 simp only[bq.run,b,c,if_true,hm,hs,f,Option.bind_eq_bind,Option.bind_some];cases r<;>rfl
theorem TH {M:Nat}{kd:Dw}{a vv:LV}{m k v:bF}{es:List (LV × LV)}(hm:m.ev e = .aR M) (b:k.ev e=a) (c:v.ev e=vv) (f:ki kd a=true) (hs:s.get M=some (.map es)) (i:iE kd a es 0=some none)
 (h:W P G K l e (s.put M (.map (es++[(a,vv)])))):W P G K (⟨none, .mZ kd m k v,none,[],fl⟩::l) e s:=
 j7 (v:=eC) rfl (by simp only[bq.run,b,c,f,if_true,hm,hs,i,Option.bind_eq_bind,Option.bind_some]) (by cases fl<;>rfl) trivial h
end
theorem IP {m:Nat} : ∀ {rows:List (List LV)},(∀ r∈rows,r.length=m)->rows.flatten.length=rows.length*m
 | [],_=>by simp
 | r::rs,h=>by rw[List.flatten_cons,List.length_append,IP (λx hx=>h x (by simp[hx])),h r (by simp),List.length_cons,Nat.add_mul,Nat.one_mul,Nat.add_comm]
theorem MY {m i:Nat}{rows:List (List LV)}{vs:List LV}(h:∀ r∈rows,r.length=m) (a:i<rows.length) (c:vs.length=m):splice rows.flatten (i*m) vs=(rows.set i vs).flatten:=by
 obtain⟨r,b⟩:∃ r,rows[i]? = some r:=⟨_,gE a⟩;have f:rows=rows.take i++r::rows.drop (i+1):=by
  conv=>lhs;rw[<- List.take_append_drop i rows]
  congr 1;rw[List.drop_eq_getElem_cons a];congr 1;rw[gE a]at b;exact Option.some.inj b
 have j:(rows.take i).flatten.length=i*m:=by
  rw[IP λx hx=>h x (List.mem_of_mem_take hx),List.length_take,Nat.min_eq_left om]
 have k:r.length=m:=h r (List.mem_of_getElem? b);have n:rows.set i vs=rows.take i++vs::rows.drop (i+1):=List.set_eq_take_append_cons_drop.trans (by rw[if_pos a]);rw[n];conv=>lhs;rw[f]
 simp only[List.flatten_append,List.flatten_cons];rw[<- j,<- List.append_assoc,tf _ _ _ _ (by rw[k,c]),List.append_assoc]
def dN (n:Nat) (f:Nat->List LV):List LV:=((List.range n).map f).flatten
theorem HB {n m:Nat}{f:Nat->List LV}(h:∀ i,(f i).length=m):(dN n f).length=n*m:=by
 unfold dN;rw[IP (m:=m) λr a=>by obtain⟨i,_,rfl⟩:=List.mem_map.1 a;exact h i];simp
theorem Au {n m i:Nat}{f g:Nat->List LV}{vs:List LV}(h:∀ i,(f i).length=m) (c:i<n) (k:vs.length=m) (b:∀ j,g j=if j=i then vs else f j):splice (dN n f) (i*m) vs=dN n g:=by
 unfold dN;rw[MY (λr o=>by obtain⟨i,_,rfl⟩:=List.mem_map.1 o;exact h i) (by simpa using c) k];congr 1;apply List.ext_getElem?;intro j;by_cases a:j<n
 ·by_cases e:j=i
  ·subst e;rw[List.getElem?_set_self (by simpa using a)];simp[a,b]
  ·rw[List.getElem?_set_ne om];simp[a,b,e]
 ·rw[List.getElem?_eq_none (by simpa using a),List.getElem?_eq_none (by simpa using a)]
theorem Hw (n:Nat) (z:List LV):rep n z=dN n λ_=>z:=by
 unfold rep dN;congr 1;apply List.ext_getElem?;intro j;by_cases a:j<n
 ·rw[List.getElem?_replicate];simp[a]
 ·rw[List.getElem?_eq_none (by simpa using a),List.getElem?_eq_none (by simpa using a)]
def cJ (n:Nat) (f:Nat->Bool):List LV:=(List.range n).map λ(i:Nat)=>LV.bool (f i)
@[simp] theorem Tb (n:Nat) (f:Nat->Bool):(cJ n f).length=n:=by simp[cJ]
theorem iA {n i:Nat}{f:Nat->Bool}(h:i<n):(cJ n f)[i]? = some (.bool (f i)):=by simp[cJ,h]
theorem Jc {n i:Nat}{x:Bool}{f g:Nat->Bool}(h:i<n) (b:∀ j,g j=if j=i then x else f j):(cJ n f).set i (.bool x)=cJ n g:=by
 apply List.ext_getElem?;intro j;by_cases a:j<n
 ·rw[iA a,b];by_cases e:j=i
  ·subst e;rw[List.getElem?_set_self (by simpa using a),if_pos rfl]
  ·rw[List.getElem?_set_ne om,iA a,if_neg e]
 ·rw[List.getElem?_eq_none (by simpa using a),List.getElem?_eq_none (by simpa using a)]
theorem OQ (n:Nat) (b:Bool):rep n [LV.bool b]=cJ n λ_=>b:=by
 rw[JH];apply List.ext_getElem?;intro j;by_cases a:j<n
 ·rw[List.getElem?_replicate,iA a,if_pos a]
 ·rw[List.getElem?_eq_none (by simpa using a),List.getElem?_eq_none (by simpa using a)]
section
variable {P:Program}{G:bP}{K:Env->St->Prop}{l:List bC}{e:Env}{s:St}{d:Nat}{g:Option (Nat × Bool)}{fl:Bool}
theorem u_mkR {x y:bF}{n k m bytes:Nat}{z:List LV}(b:aK g e=some true) (c:s.n=k) (hx:x.ev e = .int .i64 (n:Int)) (f:y.ev e = .int .i64 (n:Int)) (h:n<=1048576) (a:bytes<=1024) (i:z.length=m) (j:W P G K l (Tr.set e d (.aE k 0 n m)) (s.new (.cells .mut (dN n λ_=>z)))):W P G K (⟨some d, .cH m bytes z x y,g,[],fl⟩::l) e s:=by
 subst c;refine q_op b rfl ?_ j;have h0:(n:Int)*(bytes:Int)<=1048576*1024:=by
  have:n*bytes<=1048576*1024:=Nat.mul_le_mul h a;omega
 have h1:(n:Int)*bytes<=big:=by unfold big;omega
 have h2:(n:Int)<=big:=by unfold big;omega
 simp only[bq.run,hx,f];rw[if_pos ⟨by omega,Int.le_refl _,h1,h2,i⟩,Int.toNat_natCast,Hw]
theorem D1 {x y:bF}{n k:Nat}(a:aK g e=some true) (b:s.n=k) (hx:x.ev e = .int .i64 (n:Int)) (c:y.ev e = .int .i64 (n:Int)) (h:n<=1048576) (f:W P G K l (Tr.set e d (.aE k 0 n 1)) (s.new (.cells .mut (cJ n λ_=>false)))):W P G K (⟨some d, .cH 1 1 [.bool false] x y,g,[],fl⟩::l) e s:=by
 subst b;refine q_op a rfl ?_ f;have h1:(n:Int)*(1:Nat)<=big:=by unfold big;omega
 have h2:(n:Int)<=big:=by unfold big;omega
 simp only[bq.run,hx,c];rw[if_pos ⟨by omega,Int.le_refl _,h1,h2,rfl⟩,Int.toNat_natCast,OQ]
theorem OX {a x:bF}{i q n m:Nat}{f f':Nat->List LV}{v:LV}{vs:List LV}(k:a.ev e = .aO i (q*m)) (hx:x.ev e=v) (o:cells? v=some vs) (hm:vs.length=m) (hs:s.get i=some (.cells .mut (dN n f))) (hl:∀ i,(f i).length=m) (c:q<n) (p:∀ j,f' j=if j=q then vs else f j)
 (h:∀ s',s'.n=s.n->s'.get i=some (.cells .mut (dN n f'))->(∀ j,j≠i->s'.get j=s.get j)->W P G K l e s'):W P G K (⟨none, .store m a x,none,[],fl⟩::l) e s:=
 j7 (v:=eC) rfl (by
  have b:q*m+m<=(dN n f).length:=by
   rw[HB hl];have:(q+1)*m<=n*m:=Nat.mul_le_mul_right _ c;rw[Nat.add_mul,Nat.one_mul]at this;exact this
  simp only[bq.run,k,hx,o,hs];rw[if_pos ⟨hm,b⟩]) (by cases fl<;>rfl) trivial (h (s.put i (.cells .mut (splice (dN n f) (q*m) vs))) rfl (by rw[St.az,if_pos rfl,Au hl c hm p]) λj r=>by rw[St.az,if_neg r])
theorem lR {a:bF}{i q n:Nat}{x:bF}{b:Bool}{f f':Nat->Bool}(c:a.ev e = .aO i q) (hx:x.ev e = .bool b) (hs:s.get i=some (.cells .mut (cJ n f))) (k:q<n) (m:∀ j,f' j=if j=q then b else f j)
 (h:∀ s',s'.n=s.n->s'.get i=some (.cells .mut (cJ n f'))->(∀ j,j≠i->s'.get j=s.get j)->W P G K l e s'):W P G K (⟨none, .store 1 a x,none,[],fl⟩::l) e s:=
 j7 (v:=eC) rfl (by
  have:q+1<=(cJ n f).length:=by simp;omega
  have o:cells? (.bool b)=some [.bool b]:=rfl;simp only[bq.run,c,hx,o,hs];rw[if_pos ⟨rfl,this⟩]) (by cases fl<;>rfl) trivial (h (s.put i (.cells .mut (splice (cJ n f) q [.bool b]))) rfl (by rw[St.az,if_pos rfl];simp only[splice];rw[Jc k m]) λj p=>by rw[St.az,if_neg p])
theorem EA {nt:Nat}{y:bF}{yv:LV}{ps:List Nat}{as a:bx}{Q:Out->Env->St->Prop}(b:y.ev e=yv) (h:aM P G yv [.rG s.n] (s.new (.loop .ready none e ps as a)) (λ_ s'=>Sv s.n e Q s')):Cd P G false nt (.rangeFunc y ps as a) e s Q:=⟨ug (by rw[b];exact h)⟩
theorem Ev {id:Nat}{a:Env}{ps:List Nat}{as b:bx}{c:Option Dx}{args:List LV}{Q:LV->St->Prop}(k:s.get id=some (.loop .ready c a ps as b)) (hl:args.length=ps.length)
 (h:∀ nt,Cd P G true nt as (vU ps args a) s (Cg (λi s1=>s1.get id=some (.loop .ready c a ps as b)/\Cd P G true nt b i (s1.put id (.loop .busy c a ps as b)) (Round id Q)) (λ_ _ _=>False))):aM P G (.rG id) args s Q:=
 zP k hl λnt=>aX.mono (h nt).out λo i s1 f=>by
  cases o with
  | normal=>exact⟨_,_,_,_,_,f.1,f.2.out⟩
  | jmp j=>exact f.elim
end
def FV (T:Nat->Prop):Nat->St->LV->LV->Prop
 | 0,_,v,r=>v.closed=true/\r=v
 | d + 1, s, v, r => (v.closed = true /\ r = v) ∨
     (∃ j off k aZ m cs rs,v = .aE j off k aZ/\r = .aF ((rs.drop off).take (k*aZ)) k/\T j/\s.get j=some (.cells m cs)/\off+k*aZ<=cs.length/\rs.length=cs.length/\LV.closed.au rs=true/\∀ i,i<cs.length->FV T d s (cs.getD i .top) (rs.getD i .top)) ∨
     (∃ j off m cs rs,v = .aO j off/\r = .aY rs off/\T j/\s.get j=some (.cells m cs)/\off<cs.length/\rs.length=cs.length/\LV.closed.au rs=true/\∀ i,i<cs.length->FV T d s (cs.getD i .top) (rs.getD i .top)) ∨
     (∃ cs rs,v = .agg cs/\v.closed=false/\r = .agg rs/\rs.length=cs.length/\LV.closed.au rs=true/\∀ i,i<cs.length->FV T d s (cs.getD i .top) (rs.getD i .top)) ∨
     (∃ cs rs,v = .cE cs/\v.closed=false/\r = .cE rs/\rs.length=cs.length/\LV.closed.au rs=true/\∀ i,i<cs.length->FV T d s (cs.getD i .top) (rs.getD i .top))
section
variable {T:Nat->Prop}
theorem FV.shut {d:Nat}{s:St}{v:LV}(h:v.closed=true):FV T d s v v:=by
 cases d with
 | zero=>exact⟨h,rfl⟩
 | succ d=>exact .inl ⟨h,rfl⟩
theorem FV.of_closed {d:Nat}{s:St}{v r:LV}(h:FV T d s v r) (a:v.closed=true):r=v:=by
 cases d with
 | zero=>exact h.2
 | succ d=>
   rcases h with h | ⟨_,_,_,_,_,_,_,rfl,_⟩ | ⟨_,_,_,_,_,rfl,_⟩ | ⟨_,_,rfl,h,_⟩ | ⟨_,_,rfl,h,_⟩
   ·exact h.2
   ·simp[LV.closed]at a
   ·simp[LV.closed]at a
   ·rw[h]at a;cases a
   ·rw[h]at a;cases a
theorem zK {n:Nat} : ∀ {l:List LV},LV.closed.au l=true->LV.closed.au (l.drop n)=true:=by
 induction n with
 | zero=>intro l h;exact h
 | succ n ih=>
   intro l h;cases l with
   | nil=>exact h
   | cons a l=>
     simp only[LV.closed.au,Bool.and_eq_true]at h;exact ih h.2
theorem zJ {n:Nat} : ∀ {l:List LV},LV.closed.au l=true->LV.closed.au (l.take n)=true:=by
 induction n with
 | zero=>intro l h;rfl
 | succ n ih=>
   intro l h;cases l with
   | nil=>exact h
   | cons a l=>
     simp only[LV.closed.au,Bool.and_eq_true]at h;simp only[List.take_succ_cons,LV.closed.au,Bool.and_eq_true];exact⟨h.1,ih h.2⟩
theorem FV.closed {d:Nat}{s:St}{v r:LV}(h:FV T d s v r):r.closed=true:=by
 cases d with
 | zero=>rw[h.2];exact h.1
 | succ d=>
   rcases h with h | ⟨_,_,_,_,_,_,_,_,rfl,_,_,_,_,h,_⟩ | ⟨_,_,_,_,_,_,rfl,_,_,_,_,h,_⟩ | ⟨_,_,_,_,rfl,_,h,_⟩ | ⟨_,_,_,_,rfl,_,h,_⟩
   ·rw[h.2];exact h.1
   ·exact zJ (zK h)
   ·exact h
   ·exact h
   ·exact h
theorem FV.uniq:∀ {d n:Nat}{s:St}{v r r':LV},FV T d s v r->FV T n s v r'->r=r':=by
 intro d;induction d with
 | zero=>intro n s v r r' h k;rw[h.2,k.of_closed h.1]
 | succ d ih=>
   intro n s v r r' h k;by_cases o:v.closed=true
   ·rw[h.of_closed o,k.of_closed o]
   ·cases n with
    | zero=>exact absurd k.1 o
    | succ n =>
      have key:∀ {cs rs a:List LV},rs.length=cs.length->a.length=cs.length->(∀ i,i<cs.length->FV T d s (cs.getD i .top) (rs.getD i .top))->(∀ i,i<cs.length->FV T n s (cs.getD i .top) (a.getD i .top))->rs=a:=fun {cs rs a} l1 l2 h1 h2=>by
       apply List.ext_getElem (by rw[l1,l2]);intro i q t;have:=ih (h1 i om) (h2 i om);simpa[gD,q,t] using this
      rcases h with h | ⟨j,off,u,w,m,cs,rs,rfl,rfl,_,h1,_,h2,_,h3⟩ | ⟨j,off,m,cs,rs,rfl,rfl,_,h1,_,h2,_,h3⟩ | ⟨cs,rs,rfl,_,rfl,h2,_,h3⟩ | ⟨cs,rs,rfl,_,rfl,h2,_,h3⟩
      ·exact absurd h.1 o
      all_goals rcases k with k | ⟨_,_,_,_,_,b,a,e,rfl,_,p,_,c,_,f⟩ | ⟨_,_,_,b,a,e,rfl,_,p,_,c,_,f⟩ | ⟨b,a,e,_,rfl,c,_,f⟩ | ⟨b,a,e,_,rfl,c,_,f⟩
      all_goals first
       | exact absurd k.1 o
       | (cases e;done)
       | skip
      ·cases e;rw[h1]at p;cases p;rw[key h2 c h3 f]
      ·cases e;rw[h1]at p;cases p;rw[key h2 c h3 f]
      ·cases e;rw[key h2 c h3 f]
      ·cases e;rw[key h2 c h3 f]
theorem FV.put {x:Nat}{s:St}{j:Nat}{m m':Md}{cs rs:List LV}(o:s.get j=some (.cells m cs)) (hl:rs.length=cs.length) (y:LV.closed.au rs=true) (z:∀ i,i<cs.length->FV T x s (cs.getD i .top) (rs.getD i .top)) :
 ∀ {d:Nat}{v r:LV},FV T d s v r->FV T d (s.put j (.cells m' rs)) v r:=by
 intro d;induction d with
 | zero=>intro v r h;exact h
 | succ d ih=>
   intro v r h;have key:∀ {a b:List LV},b.length=a.length->(∀ i,i<a.length->FV T d s (a.getD i .top) (b.getD i .top))->s.get j=some (.cells m a)->b=rs:=fun {a b} l1 h1 h2=>by
    rw[o]at h2;cases h2;apply List.ext_getElem (by rw[l1,hl]);intro i A B;have:=(h1 i om).uniq (z i om);simpa[gD,A,B] using this
   have t:∀ i,i<rs.length->FV T d (s.put j (.cells m' rs)) (rs.getD i .top) (rs.getD i .top):=λi C=>FV.shut (cV y C);rcases h with h | ⟨i,off,u,w,n,a,b,rfl,rfl,k,h1,h0,h2,c,h3⟩ | ⟨i,off,n,a,b,rfl,rfl,k,h1,h0,h2,c,h3⟩ | ⟨a,b,rfl,p,rfl,h2,c,h3⟩ | ⟨a,b,rfl,p,rfl,h2,c,h3⟩
   ·exact .inl h
   ·right;left;by_cases e:i=j
    ·subst e;obtain rfl:n=m:=by rw[o]at h1;cases h1;rfl
     obtain rfl:=key h2 h3 h1;exact⟨i,off,u,w,m',b,b,rfl,rfl,k,by rw[St.az,if_pos rfl],by omega,rfl,c,t⟩
    ·exact⟨i,off,u,w,n,a,b,rfl,rfl,k,by rw[St.az,if_neg e];exact h1,h0,h2,c,λq f=>ih (h3 q f)⟩
   ·right;right;left;by_cases e:i=j
    ·subst e;obtain rfl:n=m:=by rw[o]at h1;cases h1;rfl
     obtain rfl:=key h2 h3 h1;exact⟨i,off,m',b,b,rfl,rfl,k,by rw[St.az,if_pos rfl],by omega,rfl,c,t⟩
    ·exact⟨i,off,n,a,b,rfl,rfl,k,by rw[St.az,if_neg e];exact h1,h0,h2,c,λq f=>ih (h3 q f)⟩
   ·exact .inr (.inr (.inr (.inl ⟨a,b,rfl,p,rfl,h2,c,λq f=>ih (h3 q f)⟩)))
   ·exact .inr (.inr (.inr (.inr ⟨a,b,rfl,p,rfl,h2,c,λq f=>ih (h3 q f)⟩)))
structure Fk (T:Nat->Prop) (s s':St):Prop where
  n:s'.n=s.n
  fv:∀ {d:Nat}{v r:LV},FV T d s v r->FV T d s' v r
  get:∀ id,¬ T id->s'.get id=s.get id
  dR:∀ {j:Nat}{m:Md}{cs:List LV},s.get j=some (.cells m cs)->∃ m' cs',s'.get j=some (.cells m' cs')/\cs'.length=cs.length
theorem Fk.refl (s:St):Fk T s s:=⟨rfl,λh=>h,λ_ _=>rfl,λh=>⟨_,_,h,rfl⟩⟩
theorem Fk.trans {s s' a:St}(h:Fk T s s') (k:Fk T s' a):Fk T s a:=⟨k.n.trans h.n,λc=>k.fv (h.fv c),λid b=>(k.get id b).trans (h.get id b),λf=>by
 obtain⟨o,c1,h1,h2⟩:=h.dR f;obtain⟨i,c2,j,m⟩:=k.dR h1;exact⟨i,c2,j,m.trans h2⟩⟩
theorem Fk.shut {d:Nat}{s s1:St}{j:Nat}{m m':Md}{cs rs:List LV}(k:Fk T s s1) (t:T j) (h1:s.get j=some (.cells m cs)) (h2:rs.length=cs.length) (u:LV.closed.au rs=true) (h3:∀ i,i<cs.length->FV T d s (cs.getD i .top) (rs.getD i .top)):Fk T s (s1.put j (.cells m' rs)):=by
 have x:∃ f a,s1.get j=some (.cells f a)/\rs.length=a.length/\∀ i,i<a.length->FV T d s1 (a.getD i .top) (rs.getD i .top):=by
  by_cases h0:cs.length=0
  ·obtain⟨f,c1,o,p⟩:=k.dR h1;exact⟨f,c1,o,by omega,λi q=>by omega⟩
  ·have y:FV T (d+1) s (.aO j 0) (.aY rs 0):=.inr (.inr (.inl ⟨j,0,m,cs,rs,rfl,rfl,t,h1,by omega,h2,u,h3⟩));rcases k.fv y with⟨z,_⟩ | ⟨_,_,_,_,_,_,_,b,_⟩ | ⟨D,E,f,a,A,b,B,_,o,F,p,H,r⟩ | ⟨_,_,b,_⟩ | ⟨_,_,b,_⟩
   ·simp[LV.closed]at z
   ·cases b
   ·cases b;cases B;exact⟨f,a,o,p,r⟩
   ·cases b
   ·cases b
 obtain⟨f,a,o,p,r⟩:=x;refine⟨k.n,λh=>FV.put o p u r (k.fv h),λid w=>by rw[St.az,if_neg λe=>w (by rw[e];exact t)];exact k.get id w,fun {i n c} q=>?_⟩;by_cases e:i=j
 ·subst e;rw[h1]at q;cases q;exact⟨m',rs,by rw[St.az,if_pos rfl],h2⟩
 ·obtain⟨C,c2,g1,g2⟩:=k.dR q;exact⟨C,c2,by rw[St.az,if_neg e];exact g1,g2⟩
theorem MU {n d:Nat}(b:∀ {s:St}{v r:LV},FV T d s v r->∃ s',cY n v s=some (r,s')/\Fk T s s'):∀ {cs rs:List LV}{s:St},rs.length=cs.length->(∀ i,i<cs.length->FV T d s (cs.getD i .top) (rs.getD i .top))->∃ s',cY.cM (cY n) cs s=some (rs,s')/\Fk T s s':=by
 intro cs;induction cs with
 | nil=>
   intro rs s hl _;have:rs=[]:=List.length_eq_zero_iff.1 hl;subst this;exact⟨s,rfl,Fk.refl s⟩
 | cons c cs ih=>
   intro rs s hl h;match rs,hl with
   | r::rs,hl=>
     obtain⟨s1,h1,a⟩:=b (s:=s) (v:=c) (r:=r) (by simpa using h 0 (by simp));obtain⟨s2,h2,f⟩:=ih (rs:=rs) (s:=s1) (by simpa using hl) (λi j=>a.fv (by simpa using h (i+1) (by simpa using j)));exact⟨s2,by simp[cY.cM,h1,h2],a.trans f⟩
theorem frz_fv:∀ {d n:Nat}{s:St}{v r:LV},FV T d s v r->∃ s',cY (n+d+1) v s=some (r,s')/\Fk T s s':=by
 intro d;induction d with
 | zero=>
   intro n s v r h;obtain⟨c,rfl⟩:=h;exact⟨s,by unfold cY;simp[c],Fk.refl s⟩
 | succ d ih=>
   intro n s v r h;have b:=fun {cs rs:List LV}{s:St} => MU (T:=T) (n:=n+d+1) (d:=d) (λh=>ih h) (cs:=cs) (rs:=rs) (s:=s);rcases h with⟨c,rfl⟩ | ⟨j,off,k,o,m,cs,rs,rfl,rfl,f,h1,h0,h2,a,h3⟩ | ⟨j,off,m,cs,rs,rfl,rfl,f,h1,h0,h2,a,h3⟩ | ⟨cs,rs,rfl,i,rfl,h2,a,h3⟩ | ⟨cs,rs,rfl,i,rfl,h2,a,h3⟩
   ·exact⟨s,by unfold cY;simp[c],Fk.refl s⟩
   ·obtain⟨s1,a1,a2⟩:=b h2 h3;refine⟨s1.put j (.cells (if m = .mut then .app else m) rs),?_,a2.shut f h1 h2 a h3⟩;show cY ((n+d+1)+1) _ _=_;unfold cY;simp only[LV.closed,Bool.false_eq_true,if_false,h1,h0,if_true,a1,Option.bind_eq_bind,Option.bind_some]
   ·obtain⟨s1,a1,a2⟩:=b h2 h3;refine⟨s1.put j (.cells (if m = .mut then .app else m) rs),?_,a2.shut f h1 h2 a h3⟩;show cY ((n+d+1)+1) _ _=_;unfold cY;simp only[LV.closed,Bool.false_eq_true,if_false,h1,h0,if_true,a1,Option.bind_eq_bind,Option.bind_some]
   ·obtain⟨s1,a1,a2⟩:=b h2 h3;refine⟨s1,?_,a2⟩;show cY ((n+d+1)+1) _ _=_;unfold cY;simp only[i,Bool.false_eq_true,if_false,a1,Option.bind_eq_bind,Option.bind_some]
   ·obtain⟨s1,a1,a2⟩:=b h2 h3;refine⟨s1,?_,a2⟩;show cY ((n+d+1)+1) _ _=_;unfold cY;simp only[i,Bool.false_eq_true,if_false,a1,Option.bind_eq_bind,Option.bind_some]
theorem rS {d:Nat}{s:St}{v r:LV}(a:d<=39) (h:FV T d s v r):∃ s',cY bp v s=some (r,s')/\Fk T s s':=by
 have:=frz_fv (n:=39 - d) h;rwa[show 39 - d+d+1=bp by unfold bp;omega]at this
theorem FV.row {d:Nat}{s:St}{v:LV}{aZ n:Nat}{cells:List LV}(h:ek s v aZ cells n) (a:LV.closed.au cells=true) (b:∀ id,aQ v id->T id):∃ r,FV T (d+1) s v r/\Sl r cells n:=by
 obtain⟨hl,⟨rfl,h0⟩ | ⟨j,rfl,k,m,c⟩⟩:=h
 ·have:cells=[]:=List.length_eq_zero_iff.1 (by rw[hl,h0,Nat.zero_mul]);subst this;subst h0;exact⟨.aq,FV.shut rfl, .nil⟩
 ·refine⟨.aF cells n, .inr (.inl ⟨j,0,n,aZ, .mut,cells,cells,rfl,?_,b j (aI.2 rfl),c,by omega,rfl,a,λi f=>FV.shut (cV a f)⟩), .aF _ _⟩;rw[List.drop_zero,List.take_of_length_le om]
end
end Go.Pv
end
