/- Plain code, one rule an operation. -/
import Derived.Test.YtkbiecjdcjfhaaaPvRow
set_option linter.unusedSimpArgs false
set_option linter.unusedVariables false
set_option maxRecDepth 100000
set_option maxHeartbeats 16000000
section
namespace Go.Pv
open Go
structure W (P:Program) (G:bG) (K:Env->St->Prop) (l:List bx) (e:Env) (s:St):Prop where
  out:wpOps P G K l e s
structure Cd (P:Program) (G:bG) (rd:Bool) (nt:Nat) (c:bp) (e:Env) (s:St) (Q:Out->Env->St->Prop):Prop where
  out:aQ P G rd nt c e s Q
section
variable {P:Program}{G:bG}{K:Env->St->Prop}{l:List bx}{e:Env}{s:St}{d:Nat}{g:Option (Nat × Bool)}{fl:Bool}
theorem wN:aE none e=some true:=rfl
theorem wG {i:Nat}{b:Bool}(h:e.at i = .bool b):aE (some (i,b)) e=some true:=by simp[aE,h]
theorem wG0 {i:Nat}{b c:Bool}(h:e.at i = .bool c) (a:(c == b)=false):aE (some (i,b)) e=some false:=by simp[aE,h,a]
theorem q_skip {o:bx}{i:Nat}{b c:Bool}(ho:o.guard=some (i,b)) (h:e.at i = .bool c) (a:(c == b)=false) (k:W P G K l (e.put o.dst (.cy [])) s):W P G K (o::l) e s:=⟨xF (by rw[ho];exact wG0 h a) k.out⟩
theorem q_op {op:aR}{v:LV}{s':St}(a:aE g e=some true) (hs:dA fl op e=true) (b:op.run e s=some (v,s')) (k:W P G K l (Tr.set e d v) s'):W P G K (⟨some d,op,g,[],fl⟩::l) e s:=
 ⟨Im a b hs trivial k.out⟩
theorem ZU {x:bz}{v:LV}(a:aE g e=some true) (hx:x.ev e=v) (k:W P G K l (Tr.set e d v) s):W P G K (⟨some d, .mv x,g,[],fl⟩::l) e s:=
 q_op a rfl (by simp[aR.run,hx]) k
theorem ZV {x:bz}{v:LV}{n:Nat}(a:aE g e=some true) (hx:x.ev e=v) (b:fm v=some n) (k:W P G K l (Tr.set e d (.int .i64 n)) s):W P G K (⟨some d, .xY x,g,[],fl⟩::l) e s:=
 q_op a rfl (by simp[aR.run,hx,b]) k
theorem Ik {x i:bz}{aU:Nat}{v a r:LV}{s':St}(b:aE g e=some true) (hx:x.ev e=v) (hi:i.ev e=a) (c:mM aU v a s=some (r,s')) (k:W P G K l (Tr.set e d r) s'):W P G K (⟨some d, .vI aU x i,g,[],fl⟩::l) e s:=
 q_op b rfl (by rw[JH,hx,hi,c]) k
theorem Aq {op:BinOp}{x y:bz}{a b:LV}{c:Bool}(f:aE g e=some true) (hx:x.ev e=a) (h:y.ev e=b) (i:iA op a b=some (.bool c)) (k:∀ b,c=b->W P G K l (Tr.set e d (.bool b)) s):W P G K (⟨some d, .bin op x y,g,[],fl⟩::l) e s:=
 ⟨RO f (by rw[hx,h];exact i) λb j=>(k b j).out⟩
theorem Il {op:BinOp}{x y:bz}{a b:LV}{v:LV}(c:aE g e=some true) (hx:x.ev e=a) (f:y.ev e=b) (h:iA op a b=some v) (k:W P G K l (Tr.set e d v) s):W P G K (⟨some d, .bin op x y,g,[],fl⟩::l) e s:=
 q_op c rfl (by simp[aR.run,hx,f,h]) k
theorem q_eq {neg:Bool}{t:cL}{x y:bz}{a b:LV}{c:Bool}(f:aE g e=some true) (hx:x.ev e=a) (h:y.ev e=b) (i:jP t a b=some c) (k:∀ b,(if neg then !c else c)=b->W P G K l (Tr.set e d (.bool b)) s):W P G K (⟨some d, .eq neg t x y,g,[],fl⟩::l) e s:=
 ⟨V6 f (by rw[hx,h];exact i) λb j=>(k b j).out⟩
theorem eN {op:aR}{s':St}{v:LV}(a:op.run e s=some (v,s')) (h:W P G K l (Tr.set e d v) s'):W P G K (⟨some d,op,none,[],false⟩::l) e s:=⟨RM a h.out⟩
theorem V3 {op:aR}{s':St}{v:LV}(a:op.run e s=some (v,s')) (h:W P G K l e s'):W P G K (⟨none,op,none,[],false⟩::l) e s:=⟨RL a h.out⟩
theorem dR (a:∀ x∈G,LV.closed.aq x.2=true) {dst:Option Nat}{m8:List (Nat × Option (Nat × Bool) × aR)}{as:List bz}{vs:List LV}{fv r:LV}(b:eB P G fv vs r) (f:aE g e=some true) (i:as.map (·.ev e)=vs)
 (j:cH m8 (e.put dst r) s) (h:W P G K l (e.put dst r) s):W P G K (⟨dst, .call (.c fv) as,g,m8,fl⟩::l) e s:=⟨RN a b f i j h.out⟩
theorem cW (f:∀ x∈G,LV.closed.aq x.2=true) {dst:Option Nat}{m8:List (Nat × Option (Nat × Bool) × aR)}{as:List bz}{vs:List LV}{fv:LV}{R:LV->Prop}(i:qj P G fv vs R) (j:aE g e=some true) (k:as.map (·.ev e)=vs)
 (h:∀ r,R r->r.closed=true->cH m8 (e.put dst r) s/\W P G K l (e.put dst r) s):W P G K (⟨dst, .call (.c fv) as,g,m8,fl⟩::l) e s:=⟨JP f i j k λr a b=>⟨(h r a b).1,(h r a b).2.out⟩⟩
theorem dN (i:∀ x∈G,LV.closed.aq x.2=true) {dst:Option Nat}{m8:List (Nat × Option (Nat × Bool) × aR)}{as:List bz}{vs:List LV}{fv:LV}{a:Bool}(j:eB P G fv vs (.bool a)) (k:aE g e=some true) (m:as.map (·.ev e)=vs)
 (h:∀ b,a=b->cH m8 (e.put dst (.bool b)) s/\W P G K l (e.put dst (.bool b)) s):W P G K (⟨dst, .call (.c fv) as,g,m8,fl⟩::l) e s:=⟨Nl i j k m λb f=>⟨(h b f).1,(h b f).2.out⟩⟩
theorem bH {dst:Option Nat}{m8:List (Nat × Option (Nat × Bool) × aR)}{f:bz}{as:List bz}{vs:List LV}{fv:LV}(b:aE g e=some true) (c:f.ev e=fv) (i:as.map (·.ev e)=vs)
 (h:aJ P G fv vs s (λv s'=>cH m8 (e.put dst v) s'/\W P G K l (e.put dst v) s')):W P G K (⟨dst, .call f as,g,m8,fl⟩::l) e s:=
 ⟨td rfl b (by rw[c,i];exact aJ.mono h λv s a=>⟨a.1,a.2.out⟩)⟩
theorem Nf (h:K e s):W P G K [] e s:=⟨h⟩
variable {rd:Bool}{nt:Nat}{Q:Out->Env->St->Prop}
theorem Ia (h:Q .normal e s):Cd P G rd nt .skip e s Q:=⟨Is h⟩
theorem Ig {id:Nat}(h:Q (.jmp (.exit id)) e s):Cd P G rd nt (.exit id) e s Q:=⟨Iw h⟩
theorem Na (h:Q (.jmp .ret) e s):Cd P G rd nt .ret e s Q:=⟨NF h⟩
theorem Dy {id:Nat}{x:bp}(h:Cd P G rd nt x e s (CK id Q)):Cd P G rd nt (.block id x) e s Q:=⟨DL h.out⟩
theorem Du {x:bp}(h:Cd P G rd nt x e s Q):Cd P G rd nt (.scope x) e s Q:=⟨DK h.out⟩
theorem aA {a b:bp}(h:Cd P G rd nt a e s (zi (λe s=>Cd P G rd nt b e s Q) Q)):Cd P G rd nt (.seq a b) e s Q:=
 ⟨ND (aQ.mono h.out λo e s c=>by cases o with | normal=>exact Cd.out c | jmp j=>exact c)⟩
theorem ig (hm:P.follows .mixedOrders=true) {l:List bx}(h:W P G (λe s=>Q .normal e s) l e s):Cd P G rd nt (.region l) e s Q:=⟨JO hm h.out⟩
theorem Dw {x:bz}{a b:bp}(hx:x.ev e = .bool true) (h:Cd P G rd nt a e s Q):Cd P G rd nt (.cond x a b) e s Q:=⟨Nm hx h.out⟩
theorem Dx {x:bz}{a b:bp}(hx:x.ev e = .bool false) (h:Cd P G rd nt b e s Q):Cd P G rd nt (.cond x a b) e s Q:=⟨Nn hx h.out⟩
theorem aS {x:bp}(I:Nat->Env->St->Prop) (n:Nat) (h:I n e s)
 (a:∀ n e s,I n e s->Cd P G rd nt x e s (zi (λe s=>∃ m,m<n/\I m e s) Q)):Cd P G rd nt (.loop x) e s Q:=⟨vw I (λn e s h=>(a n e s h).out) n h⟩
theorem lK {k : Nat}{fn : Func}{refs : List Nat}{lf : aZ}{args : List LV}{r : LV}{t : Nat}(hm : P.follows .mixedOrders = true) (hf : P.funcs[k]? = some fn) (hn : (fn.name == "runtime.NumGoroutine") = false) (hc : aF P G refs fn = some lf)
 (hlen:args.length<=lf.ntmps) (ha:LV.closed.aq args=true) (hr:r.closed=true) (ht:lf.results=[.tmp t])
 (h:Cd P G false lf.ntmps lf.body (eV args) St.empty (λo e s=>(o = .normal∨o = .jmp .ret)/\e.at t=r)):eB P G (.fn (.func k) [] []) args r:=DE hm hf hn hc hlen ha hr ht h.out
theorem n9 {k : Nat}{fn : Func}{refs : List Nat}{lf : aZ}{args : List LV}{R : LV -> Prop}{t : Nat}(hm : P.follows .mixedOrders = true) (hf : P.funcs[k]? = some fn) (hn : (fn.name == "runtime.NumGoroutine") = false) (hc : aF P G refs fn = some lf)
 (hlen:args.length<=lf.ntmps) (ha:LV.closed.aq args=true) (ht:lf.results=[.tmp t])
 (h:Cd P G false lf.ntmps lf.body (eV args) St.empty (λo e s=>(o = .normal∨o = .jmp .ret)/\∃ r s',cK aY (e.at t) s=some (r,s')/\r.closed=true/\R r)):qj P G (.fn (.func k) [] []) args R:=F8 hm hf hn hc hlen ha ht h.out
end
def keep (e:Env):List Nat->Env
 | []=>.nil
 | t::r=>Tr.set (keep e r) t (e.at t)
theorem jj (k:IntKind) (n:Int):cells? (.int k n)=some [.int k n]:=rfl
theorem yP (i:Nat):cells? (.aI i)=some [.aI i]:=rfl
theorem cj:St.empty.n=0:=rfl
section
variable {P:Program}{G:bG}{K:Env->St->Prop}{l:List bx}{e:Env}{s:St}{d:Nat}{g:Option (Nat × Bool)}{fl:Bool}
theorem RK {z:List LV}(a:aE g e=some true) (k:W P G K l (Tr.set e d (.aH s.n 0)) (s.new (.cells .mut z))):W P G K (⟨some d, .alloc z,g,[],fl⟩::l) e s:=q_op a rfl rfl k
theorem ZY {x:bz}{vs:List LV}{i:Nat}{v:LV}(a:aE g e=some true) (hx:x.ev e = .cy vs) (b:vs[i]? = some v) (k:W P G K l (Tr.set e d v) s):W P G K (⟨some d, .ext x i,g,[],fl⟩::l) e s:=
 q_op a rfl (by simp[aR.run,hx,b]) k
theorem JN {aU:Nat}{z:List LV}(a:aE g e=some true) (k:W P G K l (Tr.set e d (.aD s.n 0 0 aU)) (s.new (.cells .mut []))):W P G K (⟨some d, .bt aU 0 z [],g,[],fl⟩::l) e s:=
 q_op a rfl (by simp[aR.run,aW,bB,rep]) k
theorem Ar {z:LV}{x:bz}{v:LV}(a:aE g e=some true) (hx:x.ev e=v) (b:aV v=true) (k:W P G K l (Tr.set e d (.aD s.n 0 1 1)) (s.new (.cells .mut [v]))):W P G K (⟨some d, .bt 1 1 [z] [(0,(1,x))],g,[],fl⟩::l) e s:=
 q_op a rfl (by simp[aR.run,aW,bB,rep,hx,fY b,splice]) k
theorem eO {aU b:Nat}{x y:bz}{xv yv r:LV}{n:Nat}{new a:List LV}{c s2:St}(f:aE g e=some true) (hx:x.ev e=xv) (h:y.ev e=yv) (i:me yv=some n) (j:rowOf s aU n yv=some new) (m:fU new s=(a,c))
 (o:bF aU b xv a n c=some (r,s2)) (k:W P G K l (Tr.set e d r) s2):W P G K (⟨some d, .append aU b x y,g,[],fl⟩::l) e s:=
 q_op f rfl (by simp[aR.run,hx,h,i,j,m,o]) k
end
theorem Am {s:St}{m:Nat}{md:Md}{v:LV}(h:s.get m=some (.cells md [v])):rowOf s 1 1 (.aD m 0 1 1)=some [v]:=by simp[rowOf,h]
theorem mS {v:LV}{s:St}(h:v.closed=true):fU [v] s=([v],s):=by
 simp[fU,cK.cu,bf h]
theorem dg:∀ {l:List LV}{s:St}{n:Nat},LV.closed.aq l=true->cK.cu (cK (n+1)) l s=some (l,s):=by
 intro l;induction l with
 | nil=>intro s n _;rfl
 | cons v l ih=>
   intro s n h;simp only[LV.closed.aq,Bool.and_eq_true]at h;simp[cK.cu,g8 h.1,ih h.2]
theorem tW {s:St}{j len:Nat}{cs:List LV}(h:s.get j=some (.cells .mut cs)) (hl:cs.length=len) (a:LV.closed.aq cs=true):cK aY (.aD j 0 len 1) s=some (.aB cs len,s.put j (.cells .app cs)):=by
 have:cK aY (.aD j 0 len 1) s=cK (38+1+1) (.aD j 0 len 1) s:=rfl;rw[this];unfold cK;simp only[LV.closed,Bool.false_eq_true,if_false,h,Nat.zero_add,Nat.mul_one,hl,Nat.le_refl,if_true,dg a,Option.bind_eq_bind,Option.bind_some,List.drop_zero,Option.some.injEq,Prod.mk.injEq,and_true];rw[List.take_of_length_le om]
theorem rS {b:Nat}{v:LV}{s:St}(a:b<=2 ^ 20):bF 1 b .aj [v] 1 s=some (.aD s.n 0 1 1,s.new (.cells .mut [v])):=by
 have:1*b<=big:=by unfold big;omega
 simp[bF];unfold big;omega
theorem Cx {b j k:Nat}{v:LV}{s:St}{cs:List LV}(h:s.get j=some (.cells .mut cs)) (hl:cs.length=k) (a:b<=2 ^ 10) (c:k<=2 ^ 20) :
 bF 1 b (.aD j 0 k 1) [v] 1 s=some (.aD s.n 0 (k+1) 1,(s.put j (.cells .ro [])).new (.cells .mut (cs++[v]))):=by
 have:(k+1)*b<=big:=by
  have:(k+1)*b<=(2 ^ 20+1)*2 ^ 10:=Nat.mul_le_mul om a;unfold big;omega
 simp only[bF,if_true,h,Nat.zero_add,Nat.mul_one,hl,Nat.le_refl,this,List.length_cons,List.length_nil,and_self,List.drop_zero];rw[List.take_of_length_le om];rfl
theorem kU {s:St}{j len:Nat}{cs:List LV}(n:Nat) (h:s.get j=some (.cells .mut cs)) (hl:cs.length=len) (a:LV.closed.aq cs=true):cK (n+2) (.aD j 0 len 1) s=some (.aB cs len,s.put j (.cells .app cs)):=by
 unfold cK;simp only[LV.closed,Bool.false_eq_true,if_false,h,Nat.zero_add,Nat.mul_one,hl,Nat.le_refl,if_true,dg a,Option.bind_eq_bind,Option.bind_some,List.drop_zero,Option.some.injEq,Prod.mk.injEq,and_true];rw[List.take_of_length_le om]
theorem TJ {s s':St}{cs cs':List LV}(n:Nat) (a:(LV.agg cs).closed=false) (h:cK.cu (cK n) cs s=some (cs',s')):cK (n+1) (.agg cs) s=some (.agg cs',s'):=by
 unfold cK;simp[a,h]
theorem n8 {P : Program}{G : bG}{k : Nat}{fn : Func}{refs : List Nat}{lf : aZ}{args : List LV}{R : LV -> Prop}(hf : P.funcs[k]? = some fn) (hn : (fn.name == "runtime.NumGoroutine") = false) (hc : aF P G refs fn = some lf)
 (hlen:args.length<=lf.ntmps) (ha:LV.closed.aq args=true)
 (h:Cd P G false lf.ntmps lf.body (eV args) St.empty (λo e s=>(o = .normal∨o = .jmp .ret)/\∃ v,br lf.results e s=some v/\∃ r s',cK aY v s=some (r,s')/\r.closed=true/\R r)):qj P G (.fn (.func k) [] []) args R:=
 ⟨rfl,ha,bL (first:=[]) (caps:=[]) hf hn hc (by simpa using hlen) (by simpa using h.out)⟩
theorem lk:(∀ (e:Env) (i:Nat),(bz.t i).ev e=e.at i)/\(∀ (e:Env) (v:LV),(bz.c v).ev e=v)/\(∀ (e:Env) (i j:Nat) (v:LV),Env.at (Tr.set e i v) j=if j=i then v else Env.at e j) :=
 ⟨λ_ _=>rfl,λ_ _=>rfl,Env.qg⟩
theorem UD:(∀ {v:LV}{s:St},v.closed=true->cK aY v s=some (v,s))/\(∀ cs:List LV,cells? (.agg cs)=if cs.all aV then some cs else none)/\(∀ {v:LV},aV v=true->cells? v=some [v]) /\
 (∀ (k:IntKind) (n:Int),aV (.int k n)=true)/\(∀ b:Bool,aV (.bool b)=true)/\(∀ s:ByteArray,aV (.str s)=true)/\aV .aj=true/\aV .zs=true/\(∀ (cs:List LV) (n:Nat),aV (.aB cs n)=true) /\
 (∀ i o n e:Nat,aV (.aD i o n e)=true)/\(∀ i o:Nat,aV (.aH i o)=true)/\(∀ (cs:List LV) (o:Nat),aV (.aX cs o)=true)/\(∀ i:Nat,aV (.aI i)=true)/\(∀ (f:Fn) (a b:List LV),aV (.fn f a b)=true) :=
 ⟨bf,jk,fY,tD,Oi,SD,Og,Wq,Oc,Ob,Od,Oe,Oh,Wr⟩
theorem dJ:(∀ n:Nat,0+n=n)/\(∀ n:Nat,n+0=n)/\(∀ n:Nat,n*1=n)/\(∀ n:Nat,(n<=n)=True)/\((!true)=false)/\((!false)=true)/\((false=true)=False)/\((true=false)=False)/\(∀ b:Bool,(b && b)=b) :=
 ⟨Nat.zero_add,Nat.add_zero,Nat.mul_one,λn=>by simp,rfl,rfl,by simp,by simp,Bool.and_self⟩
theorem gW:(∀ (α:Type) (x:α) (l:List α),(x::l)[0]? = some x)/\(∀ (α:Type) (x:α) (l:List α) (i:Nat),(x::l)[i+1]? = l[i]?)/\(∀ (α:Type) (x:α) (l:List α),(x::l).length=l.length+1)/\(∀ α:Type,([]:List α).length=0) /\
 (∀ (α:Type) (l:List α),l.drop 0=l)/\(∀ (α:Type) (x:α) (l:List α) (i:Nat),(x::l).drop (i+1)=l.drop i)/\(∀ (α:Type) (x:α) (l:List α) (i:Nat),(x::l).take (i+1)=x::l.take i)/\(∀ (α:Type) (l:List α),l.take 0=[])/\(∀ (α:Type) (i:Nat),([]:List α).take i=[]) /\
 (∀ (α:Type) (p:α->Bool) (x:α) (l:List α),(x::l).all p=(p x && l.all p))/\(∀ (α:Type) (p:α->Bool),([]:List α).all p=true) /\
 (∀ (α b:Type) (a:α) (f:α->Option b),(some a).bind f=f a)/\(∀ (α b:Type) (a:α) (f:α->b),(some a).map f=some (f a))/\(∀ (α b:Type) (x:Option α) (f:α->Option b),(x >>= f)=x.bind f) :=
 ⟨λ_ _ _=>rfl,λ_ _ _ _=>rfl,λ_ _ _=>rfl,λ_=>rfl,λ_ _=>rfl,λ_ _ _ _=>rfl,λ_ _ _ _=>rfl,λ_ _=>rfl,λ_ i=>by cases i<;>rfl,λ_ _ _ _=>rfl,λ_ _=>rfl,λ_ _ _ _=>rfl,λ_ _ _ _=>rfl,λ_ _ _ _=>rfl⟩
theorem svq:type_of% lk/\type_of% UD/\type_of% dJ/\type_of% gW/\(∀ (α:Type) (a b:α),(if False then a else b)=b)/\(∀ (α:Type) (a b:α),(if True then a else b)=a):=⟨lk,UD,dJ,gW,λ_ _ _=>if_neg id,λ_ _ _=>if_pos trivial⟩
theorem cX {P:Program}{G:bG}{K:Env->St->Prop}{l:List bx}{e:Env}{s s':St}{o:bx}{v:LV}(a:aE o.guard e=some true) (b:o.op.run e s=some (v,s')) (hs:dA o.fl o.op e=true) (c:cH o.m8 (e.put o.dst v) s')
 (h:W P G K l (e.put o.dst v) s'):W P G K (o::l) e s:=⟨Im a b hs c h.out⟩
theorem ji {l:List LV}{s:St}(h:LV.closed.aq l=true):fU l s=(l,s):=by
 have:cK.cu (cK aY) l s=some (l,s):=dg h;simp[fU,this]
theorem n5 {s:St}{cs:List LV}{n:Nat}(h:cs.length=n):rowOf s 1 n (.aB cs n)=some cs:=by
 simp[rowOf,h];exact List.take_of_length_le om
theorem zU {b j k n:Nat}{new:List LV}{s:St}{cs:List LV}(h:s.get j=some (.cells .mut cs)) (hl:cs.length=k) (a:new.length=n) (c:b<=2 ^ 10) (f:k+n<=2 ^ 20) :
 bF 1 b (.aD j 0 k 1) new n s=some (.aD s.n 0 (k+n) 1,(s.put j (.cells .ro [])).new (.cells .mut (cs++new))):=by
 have:(k+n)*b<=big:=by
  have:(k+n)*b<=2 ^ 20*2 ^ 10:=Nat.mul_le_mul f c;unfold big;omega
 simp only[bF,if_true,h,Nat.zero_add,Nat.mul_one,hl,Nat.le_refl,this,a,and_self,List.drop_zero];rw[List.take_of_length_le om];rfl
theorem cG {aU j off len i:Nat}{k:IntKind}{s:St}(h:(i:Int)<(len:Int)):mM aU (.aD j off len aU) (.int k (i:Int)) s=some (.aH j (off+i*aU),s):=by
 have a:i<len:=by omega
 simp[mM,idxOf,a]
theorem iH {P:Program}{G:bG}{K:Env->St->Prop}{l:List bx}{e:Env}{s:St}{fl:Bool}{a x:bz}{i o n:Nat}{cs vs cs':List LV}{v:LV}(b:a.ev e = .aH i o) (hx:x.ev e=v) (c:cells? v=some vs) (hs:s.get i=some (.cells .mut cs)) (hl:vs.length=n) (f:o+n<=cs.length) (j:splice cs o vs=cs')
 (h:W P G K l e (s.put i (.cells .mut cs'))):W P G K (⟨none, .store n a x,none,[],fl⟩::l) e s:=
 cX (v:=dY) rfl (by simp only[aR.run,b,hx,c,hs];rw[if_pos ⟨hl,f⟩,j]) rfl trivial h
section
variable {P:Program}{G:bG}
theorem RI {rd:Bool}{nt:Nat}{c:bp}{e:Env}{s:St}{Q:Out->Env->St->Prop}(Q':Out->Env->St->Prop) (h:Cd P G rd nt c e s Q') (a:∀ o e s,Q' o e s->Q o e s):Cd P G rd nt c e s Q:=⟨aQ.mono h.out a⟩
theorem V0 {rd:Bool}{nt:Nat}{c:bp}{e:Env}{s:St}{Q:Out->Env->St->Prop}(F:Env->St->Prop) (a:F e s) (h:∀ e s,F e s->Cd P G rd nt c e s Q):Cd P G rd nt c e s Q:=h e s a
theorem Mq {K:Env->St->Prop}{l:List bx}{e:Env}{s:St}(F:Env->St->Prop) (a:F e s) (h:∀ e s,F e s->W P G K l e s):W P G K l e s:=h e s a
end
def cU (n:Option Nat) (p:LV) (s:St):Option LV:=
 match p with
 | .aX cs off=>aT n cs off
 | .aH id off=>match s.get id with | some (.cells _ cs)=>aT n cs off | _=>none
 | _=>none
def qy (off:Nat):LV->Option LV
 | .aX cs o=>some (.aX cs (o+off))
 | .aH i o=>some (.aH i (o+off))
 | _=>none
def wK (n:Nat) (p v:LV) (s:St):Option St:=
 match p,cells? v with
 | .aH id off,some vs=>
   match s.get id with
   | some (.cells .mut cs)=>if vs.length=n/\off+n<=cs.length then some (s.put id (.cells .mut (splice cs off vs))) else none
   | _=>none
 | _,_=>none
def Jf (off:Nat) (n:Option Nat):LV->Option LV
 | .agg cs=>aT n cs off
 | _=>none
def Ax:Bool->LV->LV->LV
 | true,a,_=>a
 | false,_,b=>b
def NN:LV->Bool
 | .aX .. => true
 | .aH .. => true
 | .fn (.func _) _ _=>true
 | .qp _=>true
 | _=>false
theorem D1 {cs:List LV}{o:Nat}{v:LV}{s:St}(h:cs[o]? = some v):cU none (.aX cs o) s=some v:=h
theorem xW {m:Md}{cs:List LV}{i o:Nat}{v:LV}{s:St}(hs:s.get i=some (.cells m cs)) (h:cs[o]? = some v):cU none (.aH i o) s=some v:=by
 simp only[cU,hs];exact h
theorem AS {cs vs:List LV}{o n:Nat}{s:St}(a:Nat.ble (o+n) cs.length=true) (h:(cs.drop o).take n=vs):cU (some n) (.aX cs o) s=some (.agg vs):=by
 simp[cU,aT,Nat.le_of_ble_eq_true a,h]
theorem AR {m:Md}{cs vs:List LV}{i o n:Nat}{s:St}(hs:s.get i=some (.cells m cs)) (a:Nat.ble (o+n) cs.length=true) (h:(cs.drop o).take n=vs):cU (some n) (.aH i o) s=some (.agg vs):=by
 simp[cU,aT,hs,Nat.le_of_ble_eq_true a,h]
theorem Ad {cs vs cs':List LV}{i o n:Nat}{v:LV}{s:St}(a:cells? v=some vs) (hs:s.get i=some (.cells .mut cs)) (hl:Nat.beq vs.length n=true) (b:Nat.ble (o+n) cs.length=true) (c:splice cs o vs=cs'):wK n (.aH i o) v s=some (s.put i (.cells .mut cs')):=by
 simp only[wK,a,hs];rw[if_pos ⟨Nat.eq_of_beq_eq_true hl,Nat.le_of_ble_eq_true b⟩,c]
section
variable {P:Program}{G:bG}{K:Env->St->Prop}{l:List bx}{e:Env}{s:St}{d:Nat}{g:Option (Nat × Bool)}{fl:Bool}
theorem HN {x:bz}{off:Nat}{p r:LV}(b:aE g e=some true) (hx:x.ev e=p) (a:qy off p=some r) (k:W P G K l (Tr.set e d r) s):W P G K (⟨some d, .rQ off x,g,[],fl⟩::l) e s:=
 q_op b rfl (by
  cases p<;>simp only[qy,reduceCtorEq,Option.some.injEq]at a;all_goals (subst a;simp[aR.run,hx])) k
theorem MA {x:bz}{n:Option Nat}{p v:LV}(b:aE g e=some true) (hx:x.ev e=p) (a:cU n p s=some v) (k:W P G K l (Tr.set e d v) s):W P G K (⟨some d, .load n x,g,[],fl⟩::l) e s:=
 q_op b (by cases fl<;>rfl) (by
  cases p<;>simp only[cU,reduceCtorEq]at a
  ·simp[aR.run,hx,a]
  ·rename_i i o;simp only[aR.run,hx];split at a
   ·rename_i h;simp[h,a]
   ·cases a) k
theorem Ub {x:bz}{v:LV}{n:Nat}(a:aE g e=some true) (hx:x.ev e=v) (b:fm v=some n) (k:W P G K l (Tr.set e d (.int .i64 n)) s):W P G K (⟨some d, .xY x,g,[],fl⟩::l) e s:=ZV a hx b k
theorem Zs {op:UnOp}{x:bz}{v r:LV}(a:aE g e=some true) (hx:x.ev e=v) (b:eH op v=some r) (k:W P G K l (Tr.set e d r) s):W P G K (⟨some d, .un op x,g,[],fl⟩::l) e s:=
 q_op a rfl (by simp[aR.run,hx,b]) k
theorem HM {x:bz}{off:Nat}{n:Option Nat}{v r:LV}(b:aE g e=some true) (hx:x.ev e=v) (a:Jf off n v=some r) (k:W P G K l (Tr.set e d r) s):W P G K (⟨some d, .field off n x,g,[],fl⟩::l) e s:=
 q_op b rfl (by
  cases v<;>simp only[Jf,reduceCtorEq]at a;simp[aR.run,hx,a]) k
theorem u_conv {x:bz}{k a:IntKind}{n m:Int}(b:aE g e=some true) (hx:x.ev e = .int a n) (c:k.wrap n=m) (h:W P G K l (Tr.set e d (.int k m)) s):W P G K (⟨some d, .oA k x,g,[],fl⟩::l) e s:=
 q_op b rfl (by simp[aR.run,hx,c]) h
theorem Zu {b:Bool}{x y:bz}{v w r:LV}(a:aE g e=some true) (hx:x.ev e=v) (c:y.ev e=w) (f:eR b [v,w]=some r) (k:W P G K l (Tr.set e d r) s):W P G K (⟨some d, .mJ b [x,y],g,[],fl⟩::l) e s:=
 q_op a rfl (by simp[aR.run,hx,c,f]) k
theorem NW {k:IntKind}{a b:Int} : eR true [.int k a, .int k b]=some (.int k (max a b)):=by
 have hm:(if a<b then b else a)=max a b:=by rw[Int.max_def];split<;>split<;>omega
 simp[eR,eR.go,hm]
theorem NV {k:IntKind}{a b:Int} : eR false [.int k a, .int k b]=some (.int k (min a b)):=by
 have hm:(if b<a then b else a)=min a b:=by rw[Int.min_def];split<;>split<;>omega
 simp[eR,eR.go,hm]
theorem Mx {c x y:bz}{t:Bool}{a b v:LV}(h:aE g e=some true) (i:c.ev e = .bool t) (hx:x.ev e=a) (j:y.ev e=b) (f:Ax t a b=v) (k:W P G K l (Tr.set e d v) s):W P G K (⟨some d, .pick c x y,g,[],fl⟩::l) e s:=
 q_op h rfl (by cases t<;>simp only[Ax]at f<;>simp[aR.run,i,hx,j,f]) k
theorem Uc {x:bz}{vs:List LV}{i:Nat}{v:LV}(a:aE g e=some true) (hx:x.ev e = .cy vs) (b:vs[i]? = some v) (k:W P G K l (Tr.set e d v) s):W P G K (⟨some d, .ext x i,g,[],fl⟩::l) e s:=ZY a hx b k
theorem HJ {n:Nat}{a x:bz}{p v:LV}{s':St}(c:a.ev e=p) (hx:x.ev e=v) (b:wK n p v s=some s') (h:W P G K l e s'):W P G K (⟨none, .store n a x,none,[],fl⟩::l) e s:=
 cX (v:=dY) rfl (by
  unfold wK at b;split at b
  ·rename_i h1 h2;simp only[aR.run,c,hx,h2];split at b
   ·rename_i h3;simp only[h3];split at b
    ·rename_i f;cases b;rw[if_pos f]
    ·cases b
   ·cases b
  ·cases b) (by cases fl<;>rfl) trivial h
theorem C7 {x:bz}{v:LV}(h:aE g e=some true) (hx:x.ev e=v) (c:NN v=true) (k:W P G K l (Tr.set e d v) s):W P G K (⟨some d, .bP x,g,[],fl⟩::l) e s:=
 q_op h rfl (by
  cases v with
  | fn f a b=>cases f<;>first | (simp[NN]at c;done) | (simp[aR.run,hx];done)
  | _=>first | (simp[NN]at c;done) | (simp[aR.run,hx];done)) k
theorem My {f:Fn}{a b:List bz}{c h:List LV}(i:aE g e=some true) (j:a.map (·.ev e)=c) (m:b.map (·.ev e)=h) (k:W P G K l (Tr.set e d (.fn f c h)) s):W P G K (⟨some d, .su f a b,g,[],fl⟩::l) e s:=
 q_op i rfl (by simp[aR.run,j,m]) k
theorem u_skip {op:aR}{i:Nat}{b c:Bool}{m8:List (Nat × Option (Nat × Bool) × aR)}(h:e.at i = .bool c) (a:(c == b)=false) (k:W P G K l (Tr.set e d (.cy [])) s):W P G K (⟨some d,op,some (i,b),m8,fl⟩::l) e s:=q_skip rfl h a k
theorem HL {op:aR}{i:Nat}{b c:Bool}{m8:List (Nat × Option (Nat × Bool) × aR)}(h:e.at i = .bool c) (a:(c == b)=false) (k:W P G K l e s):W P G K (⟨none,op,some (i,b),m8,fl⟩::l) e s:=q_skip rfl h a k
theorem wG2 {i:Nat}{b:Bool}{vs:List LV}(h:e.at i = .cy vs):aE (some (i,b)) e=some false:=by simp[aE,h]
theorem HK {op:aR}{i:Nat}{b:Bool}{vs:List LV}{m8:List (Nat × Option (Nat × Bool) × aR)}(h:e.at i = .cy vs) (k:W P G K l (Tr.set e d (.cy [])) s):W P G K (⟨some d,op,some (i,b),m8,fl⟩::l) e s:=⟨xF (wG2 h) k.out⟩
theorem C6 {op:aR}{i:Nat}{b:Bool}{vs:List LV}{m8:List (Nat × Option (Nat × Bool) × aR)}(h:e.at i = .cy vs) (k:W P G K l e s):W P G K (⟨none,op,some (i,b),m8,fl⟩::l) e s:=⟨xF (wG2 h) k.out⟩
theorem Ud {x:bz}{v:LV}{cs:List LV}(hx:x.ev e=v) (a:cells? v=some cs) (b:v.closed=true) (hl:Nat.beq cs.length 0=false) (k:W P G K l (Tr.set e d (.aX cs 0)) s):W P G K (⟨some d, .box true x,none,[],false⟩::l) e s:=
 q_op rfl rfl (by
  have h0:cs.length≠0:=λh=>by rw[h]at hl;cases hl
  have h1:cs≠[]:=λh=>h0 (by rw[h];rfl);simp[aR.run,hx,bf b,a,h1]) k
theorem MD {x:bz}{v:LV}{cs:List LV}{m:Nat}(hx:x.ev e=v) (a:cells? v=some cs) (b:s.n=m) (k:W P G K l (Tr.set e d (.aH m 0)) (s.new (.cells .mut cs))):W P G K (⟨some d, .box false x,none,[],fl⟩::l) e s:=by
 subst b;exact q_op rfl rfl (by simp[aR.run,hx,a]) k
theorem XV {x:bz}{v:LV}(h:x.ev e=v):x.ev e=v:=h
theorem rA {i:Nat}{v:LV}(h:e.at i=v):e.at i=v:=h
theorem UM {a:List bz}{v:List LV}(h:a.map (·.ev e)=v):a.map (·.ev e)=v:=h
theorem n_I {m:Nat}(h:s.n=m):s.n=m:=h
theorem Jk {v:LV}{cs:List LV}(h:cells? v=some cs):cells? v=some cs:=h
theorem E0 {v:LV}(h:v.closed=true):v.closed=true:=h
theorem Nx {t:Bool}{a b v:LV}(h:Ax t a b=v):Ax t a b=v:=h
theorem Mm {k:IntKind}{n m:Int}(h:k.wrap n=m):k.wrap n=m:=h
theorem fa_I {off:Nat}{p r:LV}(h:qy off p=some r):qy off p=some r:=h
theorem Zx {x y:bz}{a b:LV}{c:Bool}(f:aE g e=some true) (hx:x.ev e=a) (h:y.ev e=b) (i:iA .lss a b=some (.bool c)) (k:∀ b,c=b->W P G K l (Tr.set e d (.bool b)) s):W P G K (⟨some d, .bin .lss x y,g,[],fl⟩::l) e s:=Aq f hx h i k
theorem Zy {x y:bz}{a b:LV}{c:Bool}(f:aE g e=some true) (hx:x.ev e=a) (h:y.ev e=b) (i:iA .leq a b=some (.bool c)) (k:∀ b,c=b->W P G K l (Tr.set e d (.bool b)) s):W P G K (⟨some d, .bin .leq x y,g,[],fl⟩::l) e s:=Aq f hx h i k
theorem Zz {x y:bz}{a b:LV}{c:Bool}(f:aE g e=some true) (hx:x.ev e=a) (h:y.ev e=b) (i:iA .gtr a b=some (.bool c)) (k:∀ b,c=b->W P G K l (Tr.set e d (.bool b)) s):W P G K (⟨some d, .bin .gtr x y,g,[],fl⟩::l) e s:=Aq f hx h i k
theorem ZA {x y:bz}{a b:LV}{c:Bool}(f:aE g e=some true) (hx:x.ev e=a) (h:y.ev e=b) (i:iA .geq a b=some (.bool c)) (k:∀ b,c=b->W P G K l (Tr.set e d (.bool b)) s):W P G K (⟨some d, .bin .geq x y,g,[],fl⟩::l) e s:=Aq f hx h i k
theorem ZB {x y:bz}{a b:LV}{c:Bool}(f:aE g e=some true) (hx:x.ev e=a) (h:y.ev e=b) (i:iA .eql a b=some (.bool c)) (k:∀ b,c=b->W P G K l (Tr.set e d (.bool b)) s):W P G K (⟨some d, .bin .eql x y,g,[],fl⟩::l) e s:=Aq f hx h i k
theorem Zt {x y:bz}{a b:LV}{c:Bool}(f:aE g e=some true) (hx:x.ev e=a) (h:y.ev e=b) (i:iA .neq a b=some (.bool c)) (k:∀ b,c=b->W P G K l (Tr.set e d (.bool b)) s):W P G K (⟨some d, .bin .neq x y,g,[],fl⟩::l) e s:=Aq f hx h i k
theorem HO {z:List LV}{m:Nat}(a:aE g e=some true) (b:s.n=m) (k:W P G K l (Tr.set e d (.aH m 0)) (s.new (.cells .mut z))):W P G K (⟨some d, .alloc z,g,[],fl⟩::l) e s:=by
 subst b;exact RK a k
theorem z8 {aU:Nat}{z:List LV}{m:Nat}(a:aE g e=some true) (b:s.n=m) (k:W P G K l (Tr.set e d (.aD m 0 0 aU)) (s.new (.cells .mut []))):W P G K (⟨some d, .bt aU 0 z [],g,[],fl⟩::l) e s:=by
 subst b;exact JN a k
end
theorem u5:(∀ cs,(LV.agg cs).closed=LV.closed.aq cs)/\LV.closed.aq []=true/\(∀ v r,LV.closed.aq (v::r)=(v.closed && LV.closed.aq r))/\(∀ k n,(LV.int k n).closed=true)/\(∀ b,(LV.bool b).closed=true)/\(∀ b,(LV.str b).closed=true)/\LV.aj.closed=true/\LV.zs.closed=true/\(∀ cs n,(LV.aB cs n).closed=LV.closed.aq cs)/\(∀ b:Bool,(b && b)=b)/\(∀ b:Bool,(true && b)=b) :=
 ⟨λ_=>rfl,rfl,λ_ _=>rfl,λ_ _=>rfl,λ_=>rfl,λ_=>rfl,rfl,rfl,λ_ _=>rfl,Bool.and_self,Bool.true_and⟩
theorem u1:(∀ (s:St) (id j:Nat) (b:iC),(s.put id b).get j=if j=id then some b else s.get j)/\(∀ (s:St) (j:Nat) (b:iC),(s.new b).get j=if j=s.n then some b else s.get j)/\(∀ (s:St) (id:Nat) (b:iC),(s.put id b).n=s.n)/\(∀ (s:St) (b:iC),(s.new b).n=s.n+1)/\St.empty.n=0/\(∀ n:Nat,0+n=n)/\(∀ n:Nat,n*1=n) :=
 ⟨St.ah,St.az,St.dP,St.dZ,rfl,Nat.zero_add,Nat.mul_one⟩
theorem u2:(∀ (α:Type) (x:α) (l:List α),(x::l)[0]? = some x)/\(∀ (α:Type) (x:α) (l:List α) (i:Nat),(x::l)[i+1]? = l[i]?)/\(∀ (α:Type) (x:α) (l:List α),(x::l).length=l.length+1)/\(∀ α:Type,([]:List α).length=0) /\
 (∀ (α:Type) (l:List α),l.drop 0=l)/\(∀ (α:Type) (x:α) (l:List α) (i:Nat),(x::l).drop (i+1)=l.drop i)/\(∀ (α:Type) (x:α) (l:List α) (i:Nat),(x::l).take (i+1)=x::l.take i)/\(∀ (α:Type) (l:List α),l.take 0=[])/\(∀ (α:Type) (i:Nat),([]:List α).take i=[]) :=
 ⟨λ_ _ _=>rfl,λ_ _ _ _=>rfl,λ_ _ _=>rfl,λ_=>rfl,λ_ _=>rfl,λ_ _ _ _=>rfl,λ_ _ _ _=>rfl,λ_ _=>rfl,λ_ i=>by cases i<;>rfl⟩
theorem u3:(∀ (k:IntKind) (n:Int),cells? (.int k n)=some [.int k n])/\(∀ b:Bool,cells? (.bool b)=some [.bool b])/\(∀ b:ByteArray,cells? (.str b)=some [.str b])/\cells? .aj=some [.aj]/\cells? .zs=some [.zs]/\(∀ (cs:List LV) (n:Nat),cells? (.aB cs n)=some [.aB cs n]) /\
 (∀ i o n z:Nat,cells? (.aD i o n z)=some [.aD i o n z])/\(∀ i o:Nat,cells? (.aH i o)=some [.aH i o])/\(∀ (cs:List LV) (o:Nat),cells? (.aX cs o)=some [.aX cs o])/\(∀ i:Nat,cells? (.aI i)=some [.aI i])/\cells? .bN=some [.bN]/\(∀ (f:Fn) (a b:List LV),cells? (.fn f a b)=some [.fn f a b])/\cells? .eu=some [.eu] :=
 ⟨λ_ _=>rfl,λ_=>rfl,λ_=>rfl,rfl,rfl,λ_ _=>rfl,λ_ _ _ _=>rfl,λ_ _=>rfl,λ_ _=>rfl,λ_=>rfl,rfl,λ_ _ _=>rfl,rfl⟩
theorem u4:(∀ cs:List LV,cells? (.agg cs)=if cs.all aV then some cs else none)/\(∀ {v:LV},aV v=true->cells? v=some [v])/\(∀ (k:IntKind) (n:Int),aV (.int k n)=true)/\(∀ b:Bool,aV (.bool b)=true)/\(∀ b:ByteArray,aV (.str b)=true)/\aV .aj=true/\aV .zs=true/\(∀ (cs:List LV) (n:Nat),aV (.aB cs n)=true)/\(∀ i o n z:Nat,aV (.aD i o n z)=true) /\
 (∀ (p:LV->Bool) (x:LV) (l:List LV),(x::l).all p=(p x && l.all p))/\(∀ p:LV->Bool,([]:List LV).all p=true)/\(∀ b:Bool,(b && b)=b)/\(∀ b:Bool,(true && b)=b) :=
 ⟨jk,fY,λ_ _=>rfl,λ_=>rfl,λ_=>rfl,rfl,rfl,λ_ _=>rfl,λ_ _ _ _=>rfl,λ_ _ _=>rfl,λ_=>rfl,Bool.and_self,Bool.true_and⟩
structure HD {α:Type}(R:LV->α->Prop) (d:α) (v:LV) (l:List α) (vs:List LV):Prop where
  sl:Sl v vs l.length
  Mr:vs.length=l.length
  len:l.length<=maxLen
  row:∀ i,i<l.length->R (vs.getD i .top) (l.getD i d)
section
variable {α:Type}{R:LV->α->Prop}{d:α}{v:LV}{l:List α}{vs:List LV}
theorem HD.get (h:HD R d v l vs) {i:Nat}(hi:i<l.length):vs[i]? = some (vs.getD i .top):=by
 have:i<vs.length:=by rw[h.Mr];exact hi
 simp[gD,this]
theorem HD.closed (h:HD R d v l vs) (a:∀ v x,R v x->v.closed=true):v.closed=true:=
 h.sl.closed (kL λj b=>a _ _ (h.row j (by rw[<- h.Mr];exact b)))
theorem Ja {c:CT}(j:∀ v,vi c v->∃ x,R v x) (h:vi (.sl [c]) v):∃ l vs,HD R d v l vs:=by
 cases h with
 | nil=>exact⟨[],[], .nil,rfl,by simp,λi b=>absurd b (Nat.not_lt_zero _)⟩
 | zs=>exact⟨[],[], .zs,rfl,by simp,λi b=>absurd b (Nat.not_lt_zero _)⟩
 | sl f hs=>
   have key:∀ {a:List (List LV)},qn [c] a->∃ ls:List α,ls.length=a.length/\a.flatten.length=a.length/\∀ i,i<ls.length->R (a.flatten.getD i .top) (ls.getD i d):=by
    intro a;induction a with
    | nil=>intro _;exact⟨[],rfl,rfl,λi b=>absurd b (Nat.not_lt_zero _)⟩
    | cons r rs ih=>
      intro h;cases h with
      | cons h hs=>
        obtain⟨ls,h1,h2,h3⟩:=ih hs;cases h with
        | cons h f=>
          cases f;obtain⟨l,hl⟩:=j _ h;refine⟨l::ls,by simp[h1],by simp[h2],λi b=>?_⟩;cases i with
          | zero=>simpa using hl
          | succ i=>simpa using h3 i (by simpa using b)
   obtain⟨ls,h1,h2,h3⟩:=key hs;refine⟨ls,_,?_,by rw[h2,h1],by rw[h1];exact f,h3⟩;rw[h1];exact .aB _ _
end
def cT:List (Int × Bool)->List LV
 | []=>[]
 | m::r=>.int .i64 m.1::.bool m.2::cT r
theorem mK:∀ l:List (Int × Bool),(cT l).length=l.length*2
 | []=>rfl
 | m::r=>by simp only[cT,List.length_cons,mK r];omega
theorem rI:∀ (a b:List (Int × Bool)),cT (a++b)=cT a++cT b
 | [],b=>rfl
 | m::r,b=>by simp only[List.cons_append,cT,rI r b]
theorem rH:∀ l:List (Int × Bool),LV.closed.aq (cT l)=true
 | []=>rfl
 | m::r=>by simp[cT,LV.closed.aq,LV.closed,rH r]
theorem pT:∀ {l:List (Int × Bool)}{i:Nat},i<l.length->(cT l)[i*2]? = some (.int .i64 (l.getD i (0,false)).1)
 | m::r,0,_=>rfl
 | m::r,i+1,h=>by
   have:=pT (l:=r) (i:=i) (by simpa using h);rw[show (i+1)*2=i*2+1+1 by omega];simpa[cT] using this
theorem vC:∀ {l:List (Int × Bool)}{i:Nat},i<l.length->(cT l)[i*2+1]? = some (.bool (l.getD i (0,false)).2)
 | m::r,0,_=>rfl
 | m::r,i+1,h=>by
   have:=vC (l:=r) (i:=i) (by simpa using h);rw[show (i+1)*2+1=i*2+1+1+1 by omega];simpa[cT] using this
theorem DQ {l:List (Int × Bool)}{i:Nat}(h:i<l.length):((cT l).drop (i*2)).take 2=[.int .i64 (l.getD i (0,false)).1, .bool (l.getD i (0,false)).2]:=by
 have h0:=pT h;have h1:=vC h;have hl:=mK l;apply List.ext_getElem?;intro j;match j with
 | 0=>simpa using h0
 | 1=>simpa using h1
 | j+2=>simp;omega
structure oI (v:LV) (ms:List (Int × Bool)):Prop where
  sl:Sl v (cT ms) ms.length
  len:ms.length<=maxLen
  jd:∀ x∈ms,cF x.1
theorem oI.closed {v:LV}{ms:List (Int × Bool)}(h:oI v ms):v.closed=true:=h.sl.closed (rH ms)
theorem G3 {v:LV}(h:vi (.sl [.int .i64, .bool]) v):∃ ms,oI v ms:=by
 cases h with
 | nil=>exact⟨[], .nil,by simp,λx hx=>by cases hx⟩
 | zs=>exact⟨[], .zs,by simp,λx hx=>by cases hx⟩
 | sl c hs=>
   have key:∀ {a:List (List LV)},qn [.int .i64, .bool] a->∃ l:List (Int × Bool),a.flatten=cT l/\l.length=a.length/\∀ x∈l,cF x.1:=by
    intro a;induction a with
    | nil=>intro _;exact⟨[],rfl,rfl,λx hx=>by cases hx⟩
    | cons r rs ih=>
      intro h;cases h with
      | cons h hs=>
        obtain⟨l,h1,h2,h3⟩:=ih hs;cases h with | cons h c=>cases c with | cons f c=>
        cases c;cases h with
        | int i=>
          cases f;rename_i n b;refine⟨(n,b)::l,by simp[cT,h1],by simp[h2],λx hx=>?_⟩;rcases List.mem_cons.1 hx with rfl | hx
          ·simpa[Lit.wf,IntKind.min,IntKind.max,IntKind.signed,IntKind.bits,cF] using i
          ·exact h3 x hx
   obtain⟨l,h1,h2,h3⟩:=key hs;refine⟨l,?_,by rw[h2];exact c,h3⟩;rw[h1,<- h2];exact .aB _ _
abbrev nQ:=List (Int × Bool)
def CJ (v:LV) (r:List nQ):Prop:=∃ vs,HD oI [] v r vs
def vh (v:LV) (n:List (List nQ)):Prop:=∃ vs,HD CJ [] v n vs
theorem CJ.closed {v:LV}{r:List nQ}(h:CJ v r):v.closed=true:=by
 obtain⟨vs,h⟩:=h;exact h.closed λ_ _ h=>h.closed
theorem vh.closed {v:LV}{n:List (List nQ)}(h:vh v n):v.closed=true:=by
 obtain⟨vs,h⟩:=h;exact h.closed λ_ _ h=>h.closed
theorem K5 {v:LV}(h:vi (.sl [.sl [.sl [.int .i64, .bool]]]) v):∃ n,vh v n:=by
 obtain⟨l,vs,h⟩:=Ja (R:=CJ) (d:=[]) (λv h=>by
  obtain⟨l,vs,h⟩:=Ja (R:=oI) (d:=[]) (λv h=>G3 h) h;exact⟨l,vs,h⟩) h
 exact⟨l,vs,h⟩
def ck (n:Nat) (f:Nat->Nat):List LV:=(List.range n).map λ(i:Nat)=>LV.int .i64 (f i:Int)
@[simp] theorem Q6 (n:Nat) (f:Nat->Nat):(ck n f).length=n:=by simp[ck]
theorem dL {n i:Nat}{f:Nat->Nat}(h:i<n):(ck n f)[i]? = some (.int .i64 (f i:Int)):=by
 simp[ck,h]
theorem G9 {n i x:Nat}{f g:Nat->Nat}(h:i<n) (b:∀ j,g j=if j=i then x else f j):(ck n f).set i (.int .i64 (x:Int))=ck n g:=by
 apply List.ext_getElem?;intro j;by_cases a:j<n
 ·rw[dL a,b];by_cases e:j=i
  ·subst e;rw[List.getElem?_set_self (by simpa using a),if_pos rfl]
  ·rw[List.getElem?_set_ne om,dL a,if_neg e]
 ·rw[List.getElem?_eq_none (by simpa using a),List.getElem?_eq_none (by simpa using a)]
theorem qc (n:Nat) (f:Nat->Nat):ck n f=ints ((List.range n).map λi=>(f i:Int)):=by simp[ck,ints]
theorem RF (n:Nat):rep n [LV.int .i64 0]=ck n λ_=>0:=by
 induction n with
 | zero=>rfl
 | succ n ih=>
   have:rep (n+1) [LV.int .i64 0] = .int .i64 0::rep n [LV.int .i64 0]:=by simp[rep,List.replicate_succ]
   rw[this,ih];simp[ck,List.range_succ_eq_map]
theorem wO (n:Nat) (v:LV):rep n [v]=List.replicate n v:=by
 induction n with
 | zero=>rfl
 | succ n ih=>
   have:rep (n+1) [v]=v::rep n [v]:=by simp[rep,List.replicate_succ]
   rw[this,ih,List.replicate_succ]
def eP (l:List Nat):List LV:=l.map λ(i:Nat)=>LV.int .i64 (i:Int)
@[simp] theorem tj (l:List Nat):(eP l).length=l.length:=by simp[eP]
theorem kD (a b:List Nat):eP (a++b)=eP a++eP b:=by simp[eP]
theorem AK (l:List Nat) (v:Nat) (r:List LV):(eP (l++[v])++r)[l.length]? = some (.int .i64 (v:Int)):=by
 rw[kD,List.append_assoc,List.getElem?_append_right (by simp)];simp[eP]
def aP (v:LV) (id:Nat):Prop:=∃ o l z,v = .aD id o l z
theorem bq (id:Nat):¬ aP .aj id:=λ⟨_,_,_,h⟩=>by cases h
theorem aC {id j o l z:Nat} : aP (.aD j o l z) id↔id=j:=⟨λ⟨_,_,_,h⟩=>by cases h;rfl,λh=>⟨o,l,z,by rw[h]⟩⟩
def Sk (s:St) (v:LV) (l:List Nat):Prop:=(v = .aj/\l=[])∨∃ j cs,v = .aD j 0 l.length 1/\j<s.n/\s.get j=some (.cells .mut (eP l++cs))
theorem Sk.mono {s s':St}{v:LV}{l:List Nat}(h:Sk s v l) (a:s.n<=s'.n) (hs:∀ id,aP v id->s'.get id=s.get id):Sk s' v l:=by
 rcases h with h | ⟨j,cs,h1,h2,h3⟩
 ·exact .inl h
 ·exact .inr ⟨j,cs,h1,by omega,by rw[hs j ⟨0,l.length,1,h1⟩];exact h3⟩
theorem Sk.len {s:St}{v:LV}{l:List Nat}(h:Sk s v l):fm v=some l.length:=by
 rcases h with⟨rfl,rfl⟩ | ⟨j,cs,rfl,_⟩<;>rfl
theorem Sk.lt {s:St}{v:LV}{l:List Nat}(h:Sk s v l) {id:Nat}(a:aP v id):id<s.n:=by
 rcases h with⟨rfl,rfl⟩ | ⟨j,cs,rfl,h2,_⟩
 ·exact absurd a (bq id)
 ·rw[aC.1 a];exact h2
theorem Sk.pos {s:St}{v:LV}{l:List Nat}{x:Nat}(h:Sk s v (l++[x])):∃ j cs,v = .aD j 0 (l.length+1) 1/\j<s.n/\s.get j=some (.cells .mut (eP (l++[x])++cs)):=by
 rcases h with⟨_,h⟩ | ⟨j,cs,h1,h2,h3⟩
 ·simp at h
 ·exact⟨j,cs,by rw[h1];simp,h2,h3⟩
theorem Sk.pop {s:St}{j:Nat}{l:List Nat}{x:Nat}{cs:List LV}(h2:j<s.n) (h3:s.get j=some (.cells .mut (eP (l++[x])++cs))):Sk s (.aD j 0 l.length 1) l:=.inr ⟨j, .int .i64 (x:Int)::cs,rfl,h2,by rw[h3,kD];simp[eP]⟩
section
variable {P:Program}{G:bG}{K:Env->St->Prop}{l:List bx}{e:Env}{s:St}{d:Nat}{g:Option (Nat × Bool)}{fl:Bool}
theorem nw {a x:bz}{i v n y:Nat}{f f':Nat->Nat}(b:a.ev e = .aH i v) (hx:x.ev e = .int .i64 (y:Int)) (hs:s.get i=some (.cells .mut (ck n f))) (c:v<n) (k:∀ j,f' j=if j=v then y else f j)
 (h:∀ s',s'.n=s.n->s'.get i=some (.cells .mut (ck n f'))->(∀ j,j≠i->s'.get j=s.get j)->W P G K l e s'):W P G K (⟨none, .store 1 a x,none,[],fl⟩::l) e s:=
 cX (v:=dY) rfl (by
  have:v+1<=(ck n f).length:=by simp;omega
  simp only[aR.run,b,hx,jj,hs];rw[if_pos ⟨rfl,this⟩]) (by cases fl<;>rfl) trivial (h (s.put i (.cells .mut (splice (ck n f) v [.int .i64 (y:Int)]))) rfl (by rw[St.ah,if_pos rfl];simp only[splice];rw[G9 c k]) λj m=>by rw[St.ah,if_neg m])
theorem F7 {a b:Nat}{x y:bz}{z yv:LV}{v:Nat}{ls:List Nat}{PN:Bool}(hx:x.ev e = .int .i64 (v:Int)) (c:y.ev (Tr.set e a (.aD s.n 0 1 1))=yv) (hs:Sk s yv ls) (hl:ls.length<=2 ^ 20)
 (h:∀ s' j,s.n<=j->j<s'.n->s'.get j=some (.cells .mut (eP (ls++[v])))->(∀ id,id<s.n->¬ aP yv id->s'.get id=s.get id)->W P G K l (Tr.set (Tr.set e a (.aD s.n 0 1 1)) b (.aD j 0 (ls.length+1) 1)) s') :
 W P G K (⟨some a, .bt 1 1 [z] [(0,(1,x))],none,[],fl⟩::⟨some b, .append 1 8 y (.t a),none,[],PN⟩::l) e s:=by
 refine Ar rfl hx rfl ?_;have f:rowOf (s.new (.cells .mut [.int .i64 (v:Int)])) 1 1 (.aD s.n 0 1 1)=some [.int .i64 (v:Int)]:=Am (by rw[St.az,if_pos rfl]);rcases hs with⟨rfl,rfl⟩ | ⟨j,cs,rfl,h2,h3⟩
 ·refine eO rfl c (by simp) rfl f (mS rfl) (rS om) ?_;refine h _ (s.n+1) om (by simp) (by rw[St.az,St.dZ,if_pos rfl];rfl) λid i _=>?_;rw[St.az,St.dZ,if_neg om,St.az,if_neg om]
 ·have k:(s.new (.cells .mut [.int .i64 (v:Int)])).get j=some (.cells .mut (eP ls++cs)):=by rw[St.az,if_neg om];exact h3
  have m:bF 1 8 (.aD j 0 ls.length 1) [.int .i64 (v:Int)] 1 (s.new (.cells .mut [.int .i64 (v:Int)]))=some (.aD (s.n+1) 0 (ls.length+1) 1,((s.new (.cells .mut [.int .i64 (v:Int)])).put j (.cells .ro [])).new (.cells .mut (eP (ls++[v])))):=by
   have:(ls.length+1)*8<=big:=by unfold big;omega
   simp only[bF,if_true,k,Nat.zero_add,Nat.mul_one,List.length_append,tj,Nat.le_add_right,this,List.length_cons,List.length_nil,and_self,List.drop_zero];rw[List.take_append_of_le_length (by simp),List.take_of_length_le (by simp),kD];rfl
  refine eO rfl c (by simp) rfl f (mS rfl) m ?_;refine h _ (s.n+1) om (by simp) (by rw[St.az,St.dP,St.dZ,if_pos rfl]) λid i o=>?_;have dH:id≠j:=λe=>o (aC.2 e);rw[St.az,St.dP,St.dZ,if_neg om,St.ah,if_neg dH,St.az,if_neg om]
theorem Mz {x y:bz}{n m:Nat}(a:aE g e=some true) (b:s.n=m) (hx:x.ev e = .int .i64 (n:Int)) (c:y.ev e = .int .i64 (n:Int)) (f:n<=1048576) (k:W P G K l (Tr.set e d (.aD m 0 n 1)) (s.new (.cells .mut (ck n λ_=>0)))):W P G K (⟨some d, .ct 1 8 [.int .i64 0] x y,g,[],fl⟩::l) e s:=by
 subst b;refine q_op a rfl ?_ k;have h1:(n:Int)*8<=big:=by unfold big;omega
 have h2:(n:Int)<=big:=by unfold big;omega
 simp only[aR.run,hx,c];rw[if_pos ⟨by omega,Int.le_refl _,h1,h2,rfl⟩,Int.toNat_natCast,RF]
theorem Dz {x hi:bz}{j n m:Nat}(a:aE g e=some true) (hx:x.ev e = .aD j 0 n 1) (b:hi.ev e = .int .i64 (m:Int)) (hm:m<=n) (k:W P G K l (Tr.set e d (.aD j 0 m 1)) s):W P G K (⟨some d, .slice 1 x none (some hi),g,[],fl⟩::l) e s:=
 q_op a rfl (by
  have h1:(m:Int)<=(n:Int):=by omega
  simp[aR.run,hx,b,fM,h1]) k
variable {rd:Bool}{nt:Nat}{Q:Out->Env->St->Prop}
theorem kj {a b:bp}(R:Env->St->Prop) (h:Cd P G rd nt a e s (zi R Q)) (f:∀ e s,R e s->Cd P G rd nt b e s Q):Cd P G rd nt (.seq a b) e s Q:=
 aA (RI _ h λo e s c=>by cases o with | normal=>exact f e s c | jmp j=>exact c)
end
section
variable {P:Program}{G:bG}{e:Env}{s:St}{rd:Bool}{nt:Nat}{Q:Out->Env->St->Prop}
theorem lX {l:List bx}{b:bp}(h:Cd P G rd nt (.region l) e s (zi (λe s=>Cd P G rd nt b e s Q) Q)):Cd P G rd nt (.seq (.region l) b) e s Q:=aA h
theorem Ib {x:bz}{i:Nat}{b:bp}(h:Cd P G rd nt (.cond x .skip (.exit i)) e s (zi (λe s=>Cd P G rd nt b e s Q) Q)):Cd P G rd nt (.seq (.cond x .skip (.exit i)) b) e s Q:=aA h
theorem Ie {i:Nat}{a b:bp}(h:Cd P G rd nt (.block i a) e s (zi (λe s=>Cd P G rd nt b e s Q) Q)):Cd P G rd nt (.seq (.block i a) b) e s Q:=aA h
theorem Ic {b:bp}(h:Cd P G rd nt .skip e s (zi (λe s=>Cd P G rd nt b e s Q) Q)):Cd P G rd nt (.seq .skip b) e s Q:=aA h
theorem Dt {l:List bx}{i:Nat}{a b:bp}(h:Cd P G rd nt (.seq (.region l) (.block i a)) e s (zi (λe s=>Cd P G rd nt b e s Q) Q)):Cd P G rd nt (.seq (.seq (.region l) (.block i a)) b) e s Q:=aA h
theorem Ds {l:List bx}{x:bz}{i:Nat}{b:bp}(h:Cd P G rd nt (.seq (.region l) (.cond x .skip (.exit i))) e s (zi (λe s=>Cd P G rd nt b e s Q) Q)):Cd P G rd nt (.seq (.seq (.region l) (.cond x .skip (.exit i))) b) e s Q:=aA h
theorem Dr {l:List bx}{x:bz}{i:Nat}{b:bp}(h:Cd P G rd nt (.seq (.region l) (.cond x (.exit i) .skip)) e s (zi (λe s=>Cd P G rd nt b e s Q) Q)):Cd P G rd nt (.seq (.seq (.region l) (.cond x (.exit i) .skip)) b) e s Q:=aA h
theorem M8 {l:List bx}{x:bz}{a b:bp}(h:Cd P G rd nt (.seq (.region l) (.cond x (.seq a .ret) .skip)) e s (zi (λe s=>Cd P G rd nt b e s Q) Q)):Cd P G rd nt (.seq (.seq (.region l) (.cond x (.seq a .ret) .skip)) b) e s Q:=aA h
theorem M9 {l:List bx}{x:bz}{i:Nat}{a b:bp}(h:Cd P G rd nt (.seq (.region l) (.cond x (.seq a (.exit i)) .skip)) e s (zi (λe s=>Cd P G rd nt b e s Q) Q)):Cd P G rd nt (.seq (.seq (.region l) (.cond x (.seq a (.exit i)) .skip)) b) e s Q:=aA h
end
theorem ZX {P : Program}{G : bG}{k : Nat}{fn : Func}{refs : List Nat}{lf : aZ}{args caps : List LV}{r : LV}{t : Nat}(hf : P.funcs[k]? = some fn) (hn : (fn.name == "runtime.NumGoroutine") = false) (hc : aF P G refs fn = some lf)
 (hlen:(args++caps).length<=lf.ntmps) (ha:LV.closed.aq args=true) (Tq:LV.closed.aq caps=true) (hr:r.closed=true) (ht:lf.results=[.tmp t])
 (h:Cd P G false lf.ntmps lf.body (eV (args++caps)) St.empty (λo e s=>(o = .normal∨o = .jmp .ret)/\e.at t=r)):eB P G (.fn (.func k) [] caps) args r:=
 ⟨by simp[LV.closed,Tq,LV.closed.aq],ha,hr,bL (first:=[]) (caps:=caps) hf hn hc (by simpa using hlen) (by
  simp only[List.nil_append];exact aQ.mono h.out λo e s hh=>⟨hh.1,r,by rw[ht];simp[br,bO,hh.2],s,bf hr⟩)⟩
theorem ZW {P : Program}{G : bG}{k : Nat}{fn : Func}{refs : List Nat}{lf : aZ}{args : List LV}{r : LV}(hf : P.funcs[k]? = some fn) (hn : (fn.name == "runtime.NumGoroutine") = false) (hc : aF P G refs fn = some lf)
 (hlen:args.length<=lf.ntmps) (ha:LV.closed.aq args=true) (hr:r.closed=true)
 (h:Cd P G false lf.ntmps lf.body (eV args) St.empty (λo e s=>(o = .normal∨o = .jmp .ret)/\br lf.results e s=some r)):eB P G (.fn (.func k) [] []) args r:=
 ⟨rfl,ha,hr,bL (first:=[]) (caps:=[]) hf hn hc (by simpa using hlen) (by simpa using aQ.mono h.out λo e s hh=>⟨hh.1,r,hh.2,s,bf hr⟩)⟩
section
variable {P:Program}{G:bG}{K:Env->St->Prop}{l:List bx}{e:Env}{s:St}{g:Option (Nat × Bool)}{fl:Bool}
theorem RJ (a:∀ x∈G,LV.closed.aq x.2=true) {d:Nat}{f:bz}{as:List bz}{vs:List LV}{fv r:LV}(b:eB P G fv vs r) (c:aE g e=some true) (i:f.ev e=fv) (j:as.map (·.ev e)=vs)
 (h:W P G K l (Tr.set e d r) s):W P G K (⟨some d, .call f as,g,[],fl⟩::l) e s:=bH c i j (ij a b ⟨trivial,h⟩)
theorem DA (c:∀ x∈G,LV.closed.aq x.2=true) {d:Nat}{f:bz}{as:List bz}{vs:List LV}{fv:LV}{a:Bool}(i:eB P G fv vs (.bool a)) (j:aE g e=some true) (k:f.ev e=fv) (m:as.map (·.ev e)=vs)
 (h:∀ b,a=b->W P G K l (Tr.set e d (.bool b)) s):W P G K (⟨some d, .call f as,g,[],fl⟩::l) e s:=RJ c i j k m (h a rfl)
end
theorem rW:∀ (vs a b c:List LV),b.length=vs.length->splice (a++b++c) a.length vs=a++vs++c:=by
 intro vs;induction vs with
 | nil => intro a b c h; have : b = [] := by simpa using h
          subst this;simp[splice]
 | cons v vs ih=>
   intro a b c h;cases b with
   | nil=>simp at h
   | cons x b=>
     have f:b.length=vs.length:=by simpa using h
     have:=ih (a++[v]) b c f;simp only[splice];have i:(a++(x::b)++c).set a.length v=a++[v]++b++c:=by simp
     rw[i];simpa using this
theorem rX {vs z:List LV}(h:z.length=vs.length):splice z 0 vs=vs:=by
 have:=rW vs [] z [] h;simpa using this
def dQ (s:St) (v:LV) (aU:Nat) (cells:List LV) (n:Nat):Prop:=cells.length=n*aU/\((v = .aj/\n=0)∨∃ j,v = .aD j 0 n aU/\0<n/\j<s.n/\s.get j=some (.cells .mut cells))
theorem dQ.nil (s:St) (aU:Nat):dQ s .aj aU [] 0:=⟨by simp, .inl ⟨rfl,rfl⟩⟩
theorem dQ.mono {s s':St}{v:LV}{aU n:Nat}{cells:List LV}(h:dQ s v aU cells n) (b:s.n<=s'.n) (hs:∀ id,aP v id->s'.get id=s.get id):dQ s' v aU cells n:=by
 obtain⟨h0,h | ⟨j,h1,h2,h3,a⟩⟩:=h
 ·exact⟨h0, .inl h⟩
 ·exact⟨h0, .inr ⟨j,h1,h2,by omega,by rw[hs j ⟨0,n,aU,h1⟩];exact a⟩⟩
theorem dQ.len {s:St}{v:LV}{aU n:Nat}{cells:List LV}(h:dQ s v aU cells n):fm v=some n:=by
 obtain⟨_,⟨rfl,rfl⟩ | ⟨j,rfl,_⟩⟩:=h<;>rfl
theorem dQ.cell {s:St}{v:LV}{aU n:Nat}{cells:List LV}(h:dQ s v aU cells n):aV v=true:=by
 obtain⟨_,⟨rfl,rfl⟩ | ⟨j,rfl,_⟩⟩:=h<;>rfl
theorem dQ.lt {s:St}{v:LV}{aU n:Nat}{cells:List LV}(h:dQ s v aU cells n) {id:Nat}(a:aP v id):id<s.n:=by
 obtain⟨_,⟨rfl,rfl⟩ | ⟨j,rfl,_,h2,_⟩⟩:=h
 ·exact absurd a (bq id)
 ·rw[aC.1 a];exact h2
theorem dQ.pos {s:St}{v:LV}{aU n:Nat}{cells:List LV}(h:dQ s v aU cells n) (a:0<n):∃ j,v = .aD j 0 n aU/\j<s.n/\s.get j=some (.cells .mut cells):=by
 obtain⟨_,⟨_,h⟩ | ⟨j,h1,_,h2,h3⟩⟩:=h
 ·omega
 ·exact⟨j,h1,h2,h3⟩
section
variable {P:Program}{G:bG}{K:Env->St->Prop}{l:List bx}{e:Env}{s:St}{fl PN:Bool}
theorem F6 {m8:List (Nat × Option (Nat × Bool) × aR)}{a b bytes aU n:Nat}{x y:bz}{z:List LV}{xv yv:LV}{vs cells:List LV}(hx:x.ev e=xv) (u:cells? xv=some vs) (k:z.length=aU) (c:vs.length=aU) (w:LV.closed.aq vs=true) (m:y.ev (Tr.set e a (.aD s.n 0 1 aU))=yv) (hs:dQ s yv aU cells n) (A:cH m8 (Tr.set e a (.aD s.n 0 1 aU)) (s.new (.cells .mut vs))) (B:bytes<=2 ^ 10) (hl:n<=2 ^ 20)
 (h:∀ s' j,s.n<=j->dQ s' (.aD j 0 (n+1) aU) aU (cells++vs) (n+1)->s.n<=s'.n->(∀ id,id<s.n->¬ aP yv id->s'.get id=s.get id)->W P G K l (Tr.set (Tr.set e a (.aD s.n 0 1 aU)) b (.aD j 0 (n+1) aU)) s') :
 W P G K (⟨some a, .bt aU 1 z [(0,(aU,x))],none,m8,fl⟩::⟨some b, .append aU bytes y (.t a),none,[],PN⟩::l) e s:=by
 have C:aW (rep 1 z) (bB e [(0,(aU,x))])=some vs:=by
  have h1:splice z 0 vs=vs:=by
   have:=rX (vs:=vs) (z:=z) (by rw[k,c]);exact this
  have D:rep 1 z=z:=by simp[rep]
  simp only[bB,List.map,D,aW,hx,u,c];rw[if_pos ⟨trivial,by rw[k];omega⟩,h1]
 refine cX (v:=.aD s.n 0 1 aU) (s':=s.new (.cells .mut vs)) rfl (by simp only[aR.run,C,Option.bind_eq_bind,Option.bind_some]) (by cases fl<;>rfl) A ?_;simp only[Env.au];have o:rowOf (s.new (.cells .mut vs)) aU 1 (.aD s.n 0 1 aU)=some vs:=by
  simp only[rowOf,St.az,if_true,Nat.le_refl,Nat.one_mul,Nat.zero_add,c,and_self,List.drop_zero];rw[List.take_of_length_le om]
 have p:fU vs (s.new (.cells .mut vs))=(vs,s.new (.cells .mut vs)):=ji w;have q:(n+1)*bytes<=big:=by
  have:(n+1)*bytes<=(2 ^ 20+1)*2 ^ 10:=Nat.mul_le_mul om B;unfold big;omega
 obtain⟨f,hs⟩:=hs;have r:(cells++vs).length=(n+1)*aU:=by rw[List.length_append,f,c,Nat.add_mul,Nat.one_mul]
 rcases hs with⟨rfl,rfl⟩ | ⟨j,rfl,h1,h2,h3⟩
 ·have E:cells=[]:=List.length_eq_zero_iff.1 (by rw[f,Nat.zero_mul]);subst E;have i:bF aU bytes .aj vs 1 (s.new (.cells .mut vs))=some (.aD (s.n+1) 0 1 aU,(s.new (.cells .mut vs)).new (.cells .mut vs)):=by
   simp only[bF];rw[if_neg om,if_pos ⟨by simpa using q,by rw[c];omega⟩];rfl
  refine eO rfl m (by simp) rfl o p i ?_;refine h _ (s.n+1) om ⟨r, .inr ⟨s.n+1,rfl,by omega,by simp,by rw[St.az,St.dZ,if_pos rfl];rfl⟩⟩ (by simp;omega) λid F _=>?_;rw[St.az,St.dZ,if_neg om,St.az,if_neg om]
 ·have H:(s.new (.cells .mut vs)).get j=some (.cells .mut cells):=by rw[St.az,if_neg om];exact h3
  have i:bF aU bytes (.aD j 0 n aU) vs 1 (s.new (.cells .mut vs))=some (.aD (s.n+1) 0 (n+1) aU,((s.new (.cells .mut vs)).put j (.cells .ro [])).new (.cells .mut (cells++vs))):=by
   simp only[bF,if_true,H,Nat.zero_add,f,Nat.le_refl,q,c,Nat.one_mul,and_self,List.drop_zero];rw[List.take_of_length_le om];rfl
  refine eO rfl m (by simp) rfl o p i ?_;refine h _ (s.n+1) om ⟨r, .inr ⟨s.n+1,rfl,by omega,by simp,by rw[St.az,St.dP,St.dZ,if_pos rfl]⟩⟩ (by simp;omega) λid F I=>?_;have dH:id≠j:=λe=>I (aC.2 e);rw[St.az,St.dP,St.dZ,if_neg om,St.ah,if_neg dH,St.az,if_neg om]
theorem mF {a b bytes aU n:Nat}{x y:bz}{z:List LV}{xv yv:LV}{vs cells:List LV}(hx:x.ev e=xv) (c:cells? xv=some vs) (f:z.length=aU) (i:vs.length=aU) (k:LV.closed.aq vs=true) (m:y.ev (Tr.set e a (.aD s.n 0 1 aU))=yv) (hs:dQ s yv aU cells n) (o:bytes<=2 ^ 10) (hl:n<=2 ^ 20)
 (h:∀ s' j,s.n<=j->dQ s' (.aD j 0 (n+1) aU) aU (cells++vs) (n+1)->s.n<=s'.n->(∀ id,id<s.n->¬ aP yv id->s'.get id=s.get id)->W P G K l (Tr.set (Tr.set e a (.aD s.n 0 1 aU)) b (.aD j 0 (n+1) aU)) s') :
 W P G K (⟨some a, .bt aU 1 z [(0,(aU,x))],none,[],fl⟩::⟨some b, .append aU bytes y (.t a),none,[],PN⟩::l) e s:=
 F6 hx c f i k m hs trivial o hl h
theorem xD {d M:Nat}{kd:zj}{zero kv:LV}{m k:bz}{es:List (LV × LV)}{r:Option (Nat × LV)}{g:Option (Nat × Bool)}(a:aE g e=some true) (hm:m.ev e = .aI M) (b:k.ev e=kv) (c:iu kd kv=true) (hs:s.get M=some (.map es)) (f:fu kd kv es 0=some r)
 (h:W P G K l (Tr.set e d (.cy [match r with | some x=>x.2 | none=>zero, .bool r.isSome])) s):W P G K (⟨some d, .eD kd zero true m k,g,[],fl⟩::l) e s:=
 q_op a (by cases fl<;>rfl) (by
  simp only[aR.run,b,c,if_true,hm,hs,f,Option.bind_eq_bind,Option.bind_some];cases r<;>rfl) h
theorem Ng {d M i:Nat}{kd:zj}{zero kv v:LV}{m k:bz}{es:List (LV × LV)}{g:Option (Nat × Bool)}(a:aE g e=some true) (hm:m.ev e = .aI M) (b:k.ev e=kv) (c:iu kd kv=true) (hs:s.get M=some (.map es)) (f:fu kd kv es 0=some (some (i,v)))
 (h:W P G K l (Tr.set e d (.cy [v, .bool true])) s):W P G K (⟨some d, .eD kd zero true m k,g,[],fl⟩::l) e s:=xD (r:=some (i,v)) a hm b c hs f h
theorem Nh {d M:Nat}{kd:zj}{zero kv:LV}{m k:bz}{es:List (LV × LV)}{g:Option (Nat × Bool)}(a:aE g e=some true) (hm:m.ev e = .aI M) (b:k.ev e=kv) (c:iu kd kv=true) (hs:s.get M=some (.map es)) (f:fu kd kv es 0=some none)
 (h:W P G K l (Tr.set e d (.cy [zero, .bool false])) s):W P G K (⟨some d, .eD kd zero true m k,g,[],fl⟩::l) e s:=xD (r:=none) a hm b c hs f h
theorem rZ {M:Nat}{kd:zj}{zero kv:LV}{m k:bz}{es:List (LV × LV)}{r:Option (Nat × LV)}(hm:m.ev e = .aI M) (a:k.ev e=kv) (b:iu kd kv=true) (hs:s.get M=some (.map es)) (c:fu kd kv es 0=some r) :
 (aR.eD kd zero false m k).run e s=some (match r with | some x=>x.2 | none=>zero,s):=by
 simp only[aR.run,a,b,if_true,hm,hs,c,Option.bind_eq_bind,Option.bind_some];cases r<;>rfl
theorem Ih {M:Nat}{kd:zj}{kv vv:LV}{m k v:bz}{es:List (LV × LV)}(hm:m.ev e = .aI M) (a:k.ev e=kv) (b:v.ev e=vv) (c:iu kd kv=true) (hs:s.get M=some (.map es)) (f:fu kd kv es 0=some none)
 (h:W P G K l e (s.put M (.map (es++[(kv,vv)])))):W P G K (⟨none, .lQ kd m k v,none,[],fl⟩::l) e s:=
 cX (v:=dY) rfl (by simp only[aR.run,a,b,c,if_true,hm,hs,f,Option.bind_eq_bind,Option.bind_some]) (by cases fl<;>rfl) trivial h
end
theorem G7 {m:Nat} : ∀ {rows:List (List LV)},(∀ r∈rows,r.length=m)->rows.flatten.length=rows.length*m
 | [],_=>by simp
 | r::rs,h=>by rw[List.flatten_cons,List.length_append,G7 (λx hx=>h x (by simp[hx])),h r (by simp),List.length_cons,Nat.add_mul,Nat.one_mul,Nat.add_comm]
theorem Lk {m i:Nat}{rows:List (List LV)}{vs:List LV}(h:∀ r∈rows,r.length=m) (hi:i<rows.length) (b:vs.length=m):splice rows.flatten (i*m) vs=(rows.set i vs).flatten:=by
 obtain⟨r,a⟩:∃ r,rows[i]? = some r:=⟨_,gE hi⟩;have c:rows=rows.take i++r::rows.drop (i+1):=by
  conv=>lhs;rw[<- List.take_append_drop i rows]
  congr 1;rw[List.drop_eq_getElem_cons hi];congr 1;rw[gE hi]at a;exact Option.some.inj a
 have f:(rows.take i).flatten.length=i*m:=by
  rw[G7 λx hx=>h x (List.mem_of_mem_take hx),List.length_take,Nat.min_eq_left om]
 have j:r.length=m:=h r (List.mem_of_getElem? a);have k:rows.set i vs=rows.take i++vs::rows.drop (i+1):=List.set_eq_take_append_cons_drop.trans (by rw[if_pos hi]);rw[k];conv=>lhs;rw[c]
 simp only[List.flatten_append,List.flatten_cons];rw[<- f,<- List.append_assoc,rW _ _ _ _ (by rw[j,b]),List.append_assoc]
def dz (n:Nat) (f:Nat->List LV):List LV:=((List.range n).map f).flatten
theorem F4 {n m:Nat}{f:Nat->List LV}(h:∀ i,(f i).length=m):(dz n f).length=n*m:=by
 unfold dz;rw[G7 (m:=m) λr a=>by obtain⟨i,_,rfl⟩:=List.mem_map.1 a;exact h i];simp
theorem zm {n m i:Nat}{f g:Nat->List LV}{vs:List LV}(h:∀ i,(f i).length=m) (hi:i<n) (c:vs.length=m) (b:∀ j,g j=if j=i then vs else f j):splice (dz n f) (i*m) vs=dz n g:=by
 unfold dz;rw[Lk (λr k=>by obtain⟨i,_,rfl⟩:=List.mem_map.1 k;exact h i) (by simpa using hi) c];congr 1;apply List.ext_getElem?;intro j;by_cases a:j<n
 ·by_cases e:j=i
  ·subst e;rw[List.getElem?_set_self (by simpa using a)];simp[a,b]
  ·rw[List.getElem?_set_ne om];simp[a,b,e]
 ·rw[List.getElem?_eq_none (by simpa using a),List.getElem?_eq_none (by simpa using a)]
theorem FX (n:Nat) (z:List LV):rep n z=dz n λ_=>z:=by
 unfold rep dz;congr 1;apply List.ext_getElem?;intro j;by_cases a:j<n
 ·rw[List.getElem?_replicate];simp[a]
 ·rw[List.getElem?_eq_none (by simpa using a),List.getElem?_eq_none (by simpa using a)]
def ia (n:Nat) (f:Nat->Bool):List LV:=(List.range n).map λ(i:Nat)=>LV.bool (f i)
@[simp] theorem Rc (n:Nat) (f:Nat->Bool):(ia n f).length=n:=by simp[ia]
theorem oF {n i:Nat}{f:Nat->Bool}(h:i<n):(ia n f)[i]? = some (.bool (f i)):=by simp[ia,h]
theorem Hv {n i:Nat}{x:Bool}{f g:Nat->Bool}(h:i<n) (b:∀ j,g j=if j=i then x else f j):(ia n f).set i (.bool x)=ia n g:=by
 apply List.ext_getElem?;intro j;by_cases a:j<n
 ·rw[oF a,b];by_cases e:j=i
  ·subst e;rw[List.getElem?_set_self (by simpa using a),if_pos rfl]
  ·rw[List.getElem?_set_ne om,oF a,if_neg e]
 ·rw[List.getElem?_eq_none (by simpa using a),List.getElem?_eq_none (by simpa using a)]
theorem M0 (n:Nat) (b:Bool):rep n [LV.bool b]=ia n λ_=>b:=by
 rw[wO];apply List.ext_getElem?;intro j;by_cases a:j<n
 ·rw[List.getElem?_replicate,oF a,if_pos a]
 ·rw[List.getElem?_eq_none (by simpa using a),List.getElem?_eq_none (by simpa using a)]
section
variable {P:Program}{G:bG}{K:Env->St->Prop}{l:List bx}{e:Env}{s:St}{d:Nat}{g:Option (Nat × Bool)}{fl:Bool}
theorem Zv {x y:bz}{n k m bytes:Nat}{z:List LV}(b:aE g e=some true) (c:s.n=k) (hx:x.ev e = .int .i64 (n:Int)) (f:y.ev e = .int .i64 (n:Int)) (h:n<=1048576) (a:bytes<=1024) (i:z.length=m) (j:W P G K l (Tr.set e d (.aD k 0 n m)) (s.new (.cells .mut (dz n λ_=>z)))):W P G K (⟨some d, .ct m bytes z x y,g,[],fl⟩::l) e s:=by
 subst c;refine q_op b rfl ?_ j;have h0:(n:Int)*(bytes:Int)<=1048576*1024:=by
  have:n*bytes<=1048576*1024:=Nat.mul_le_mul h a;omega
 have h1:(n:Int)*bytes<=big:=by unfold big;omega
 have h2:(n:Int)<=big:=by unfold big;omega
 simp only[aR.run,hx,f];rw[if_pos ⟨by omega,Int.le_refl _,h1,h2,i⟩,Int.toNat_natCast,FX]
theorem Zw {x y:bz}{n k:Nat}(a:aE g e=some true) (b:s.n=k) (hx:x.ev e = .int .i64 (n:Int)) (c:y.ev e = .int .i64 (n:Int)) (h:n<=1048576) (f:W P G K l (Tr.set e d (.aD k 0 n 1)) (s.new (.cells .mut (ia n λ_=>false)))):W P G K (⟨some d, .ct 1 1 [.bool false] x y,g,[],fl⟩::l) e s:=by
 subst b;refine q_op a rfl ?_ f;have h1:(n:Int)*(1:Nat)<=big:=by unfold big;omega
 have h2:(n:Int)<=big:=by unfold big;omega
 simp only[aR.run,hx,c];rw[if_pos ⟨by omega,Int.le_refl _,h1,h2,rfl⟩,Int.toNat_natCast,M0]
theorem Nb {a x:bz}{i q n m:Nat}{f f':Nat->List LV}{v:LV}{vs:List LV}(k:a.ev e = .aH i (q*m)) (hx:x.ev e=v) (o:cells? v=some vs) (hm:vs.length=m) (hs:s.get i=some (.cells .mut (dz n f))) (hl:∀ i,(f i).length=m) (c:q<n) (p:∀ j,f' j=if j=q then vs else f j)
 (h:∀ s',s'.n=s.n->s'.get i=some (.cells .mut (dz n f'))->(∀ j,j≠i->s'.get j=s.get j)->W P G K l e s'):W P G K (⟨none, .store m a x,none,[],fl⟩::l) e s:=
 cX (v:=dY) rfl (by
  have b:q*m+m<=(dz n f).length:=by
   rw[F4 hl];have:(q+1)*m<=n*m:=Nat.mul_le_mul_right _ c;rw[Nat.add_mul,Nat.one_mul]at this;exact this
  simp only[aR.run,k,hx,o,hs];rw[if_pos ⟨hm,b⟩]) (by cases fl<;>rfl) trivial (h (s.put i (.cells .mut (splice (dz n f) (q*m) vs))) rfl (by rw[St.ah,if_pos rfl,zm hl c hm p]) λj r=>by rw[St.ah,if_neg r])
theorem Nc {a:bz}{i q n:Nat}{x:bz}{b:Bool}{f f':Nat->Bool}(c:a.ev e = .aH i q) (hx:x.ev e = .bool b) (hs:s.get i=some (.cells .mut (ia n f))) (k:q<n) (m:∀ j,f' j=if j=q then b else f j)
 (h:∀ s',s'.n=s.n->s'.get i=some (.cells .mut (ia n f'))->(∀ j,j≠i->s'.get j=s.get j)->W P G K l e s'):W P G K (⟨none, .store 1 a x,none,[],fl⟩::l) e s:=
 cX (v:=dY) rfl (by
  have:q+1<=(ia n f).length:=by simp;omega
  have o:cells? (.bool b)=some [.bool b]:=rfl;simp only[aR.run,c,hx,o,hs];rw[if_pos ⟨rfl,this⟩]) (by cases fl<;>rfl) trivial (h (s.put i (.cells .mut (splice (ia n f) q [.bool b]))) rfl (by rw[St.ah,if_pos rfl];simp only[splice];rw[Hv k m]) λj p=>by rw[St.ah,if_neg p])
theorem Dv {nt:Nat}{y:bz}{yv:LV}{ps:List Nat}{as a:bp}{Q:Out->Env->St->Prop}(b:y.ev e=yv) (h:aJ P G yv [.qp s.n] (s.new (.loop .ready none e ps as a)) (λ_ s'=>Qu s.n e Q s')):Cd P G false nt (.rangeFunc y ps as a) e s Q:=⟨tf (by rw[b];exact h)⟩
theorem Dq {id:Nat}{a:Env}{ps:List Nat}{as b:bp}{c:Option CH}{args:List LV}{Q:LV->St->Prop}(m:s.get id=some (.loop .ready c a ps as b)) (hl:args.length=ps.length)
 (h:∀ nt,Cd P G true nt as (vq ps args a) s (zi (λk f=>f.get id=some (.loop .ready c a ps as b)/\Cd P G true nt b k (f.put id (.loop .busy c a ps as b)) (Round id Q)) (λ_ _ _=>False))):aJ P G (.qp id) args s Q:=
 yS m hl λnt=>aQ.mono (h nt).out λo k f i=>by
  cases o with
  | normal=>exact⟨_,_,_,_,_,i.1,i.2.out⟩
  | jmp j=>exact i.elim
end
def FV (T:Nat->Prop):Nat->St->LV->LV->Prop
 | 0,_,v,r=>v.closed=true/\r=v
 | d + 1, s, v, r => (v.closed = true /\ r = v) ∨
     (∃ j off k aU m cs rs,v = .aD j off k aU/\r = .aB ((rs.drop off).take (k*aU)) k/\T j/\s.get j=some (.cells m cs)/\off+k*aU<=cs.length/\rs.length=cs.length/\LV.closed.aq rs=true/\∀ i,i<cs.length->FV T d s (cs.getD i .top) (rs.getD i .top)) ∨
     (∃ j off m cs rs,v = .aH j off/\r = .aX rs off/\T j/\s.get j=some (.cells m cs)/\off<cs.length/\rs.length=cs.length/\LV.closed.aq rs=true/\∀ i,i<cs.length->FV T d s (cs.getD i .top) (rs.getD i .top)) ∨
     (∃ cs rs,v = .agg cs/\v.closed=false/\r = .agg rs/\rs.length=cs.length/\LV.closed.aq rs=true/\∀ i,i<cs.length->FV T d s (cs.getD i .top) (rs.getD i .top)) ∨
     (∃ cs rs,v = .cy cs/\v.closed=false/\r = .cy rs/\rs.length=cs.length/\LV.closed.aq rs=true/\∀ i,i<cs.length->FV T d s (cs.getD i .top) (rs.getD i .top))
section
variable {T:Nat->Prop}
theorem FV.shut {d:Nat}{s:St}{v:LV}(h:v.closed=true):FV T d s v v:=by
 cases d with
 | zero=>exact⟨h,rfl⟩
 | succ d=>exact .inl ⟨h,rfl⟩
theorem FV.of_closed {d:Nat}{s:St}{v r:LV}(h:FV T d s v r) (a:v.closed=true):r=v:=by
 cases d with
 | zero=>exact h.2
 | succ d=>
   rcases h with h | ⟨_,_,_,_,_,_,_,rfl,_⟩ | ⟨_,_,_,_,_,rfl,_⟩ | ⟨_,_,rfl,h,_⟩ | ⟨_,_,rfl,h,_⟩
   ·exact h.2
   ·simp[LV.closed]at a
   ·simp[LV.closed]at a
   ·rw[h]at a;cases a
   ·rw[h]at a;cases a
theorem yM {n:Nat} : ∀ {l:List LV},LV.closed.aq l=true->LV.closed.aq (l.drop n)=true:=by
 induction n with
 | zero=>intro l h;exact h
 | succ n ih=>
   intro l h;cases l with
   | nil=>exact h
   | cons a l=>
     simp only[LV.closed.aq,Bool.and_eq_true]at h;exact ih h.2
theorem yL {n:Nat} : ∀ {l:List LV},LV.closed.aq l=true->LV.closed.aq (l.take n)=true:=by
 induction n with
 | zero=>intro l h;rfl
 | succ n ih=>
   intro l h;cases l with
   | nil=>exact h
   | cons a l=>
     simp only[LV.closed.aq,Bool.and_eq_true]at h;simp only[List.take_succ_cons,LV.closed.aq,Bool.and_eq_true];exact⟨h.1,ih h.2⟩
theorem FV.closed {d:Nat}{s:St}{v r:LV}(h:FV T d s v r):r.closed=true:=by
 cases d with
 | zero=>rw[h.2];exact h.1
 | succ d=>
   rcases h with h | ⟨_,_,_,_,_,_,_,_,rfl,_,_,_,_,h,_⟩ | ⟨_,_,_,_,_,_,rfl,_,_,_,_,h,_⟩ | ⟨_,_,_,_,rfl,_,h,_⟩ | ⟨_,_,_,_,rfl,_,h,_⟩
   ·rw[h.2];exact h.1
   ·exact yL (yM h)
   ·exact h
   ·exact h
   ·exact h
theorem FV.uniq:∀ {d n:Nat}{s:St}{v r r':LV},FV T d s v r->FV T n s v r'->r=r':=by
 intro d;induction d with
 | zero=>intro n s v r r' h k;rw[h.2,k.of_closed h.1]
 | succ d ih=>
   intro n s v r r' h k;by_cases o:v.closed=true
   ·rw[h.of_closed o,k.of_closed o]
   ·cases n with
    | zero=>exact absurd k.1 o
    | succ n =>
      have key:∀ {cs rs a:List LV},rs.length=cs.length->a.length=cs.length->(∀ i,i<cs.length->FV T d s (cs.getD i .top) (rs.getD i .top))->(∀ i,i<cs.length->FV T n s (cs.getD i .top) (a.getD i .top))->rs=a:=fun {cs rs a} l1 l2 h1 h2=>by
       apply List.ext_getElem (by rw[l1,l2]);intro i q t;have:=ih (h1 i om) (h2 i om);simpa[gD,q,t] using this
      rcases h with h | ⟨j,off,u,w,m,cs,rs,rfl,rfl,_,h1,_,h2,_,h3⟩ | ⟨j,off,m,cs,rs,rfl,rfl,_,h1,_,h2,_,h3⟩ | ⟨cs,rs,rfl,_,rfl,h2,_,h3⟩ | ⟨cs,rs,rfl,_,rfl,h2,_,h3⟩
      ·exact absurd h.1 o
      all_goals rcases k with k | ⟨_,_,_,_,_,b,a,e,rfl,_,p,_,c,_,f⟩ | ⟨_,_,_,b,a,e,rfl,_,p,_,c,_,f⟩ | ⟨b,a,e,_,rfl,c,_,f⟩ | ⟨b,a,e,_,rfl,c,_,f⟩
      all_goals first
       | exact absurd k.1 o
       | (cases e;done)
       | skip
      ·cases e;rw[h1]at p;cases p;rw[key h2 c h3 f]
      ·cases e;rw[h1]at p;cases p;rw[key h2 c h3 f]
      ·cases e;rw[key h2 c h3 f]
      ·cases e;rw[key h2 c h3 f]
theorem FV.put {x:Nat}{s:St}{j:Nat}{m m':Md}{cs rs:List LV}(o:s.get j=some (.cells m cs)) (hl:rs.length=cs.length) (y:LV.closed.aq rs=true) (z:∀ i,i<cs.length->FV T x s (cs.getD i .top) (rs.getD i .top)) :
 ∀ {d:Nat}{v r:LV},FV T d s v r->FV T d (s.put j (.cells m' rs)) v r:=by
 intro d;induction d with
 | zero=>intro v r h;exact h
 | succ d ih=>
   intro v r h;have key:∀ {a b:List LV},b.length=a.length->(∀ i,i<a.length->FV T d s (a.getD i .top) (b.getD i .top))->s.get j=some (.cells m a)->b=rs:=fun {a b} l1 h1 h2=>by
    rw[o]at h2;cases h2;apply List.ext_getElem (by rw[l1,hl]);intro i A B;have:=(h1 i om).uniq (z i om);simpa[gD,A,B] using this
   have t:∀ i,i<rs.length->FV T d (s.put j (.cells m' rs)) (rs.getD i .top) (rs.getD i .top):=λi C=>FV.shut (dh y C);rcases h with h | ⟨i,off,u,w,n,a,b,rfl,rfl,k,h1,h0,h2,c,h3⟩ | ⟨i,off,n,a,b,rfl,rfl,k,h1,h0,h2,c,h3⟩ | ⟨a,b,rfl,p,rfl,h2,c,h3⟩ | ⟨a,b,rfl,p,rfl,h2,c,h3⟩
   ·exact .inl h
   ·right;left;by_cases e:i=j
    ·subst e;obtain rfl:n=m:=by rw[o]at h1;cases h1;rfl
     obtain rfl:=key h2 h3 h1;exact⟨i,off,u,w,m',b,b,rfl,rfl,k,by rw[St.ah,if_pos rfl],by omega,rfl,c,t⟩
    ·exact⟨i,off,u,w,n,a,b,rfl,rfl,k,by rw[St.ah,if_neg e];exact h1,h0,h2,c,λq f=>ih (h3 q f)⟩
   ·right;right;left;by_cases e:i=j
    ·subst e;obtain rfl:n=m:=by rw[o]at h1;cases h1;rfl
     obtain rfl:=key h2 h3 h1;exact⟨i,off,m',b,b,rfl,rfl,k,by rw[St.ah,if_pos rfl],by omega,rfl,c,t⟩
    ·exact⟨i,off,n,a,b,rfl,rfl,k,by rw[St.ah,if_neg e];exact h1,h0,h2,c,λq f=>ih (h3 q f)⟩
   ·exact .inr (.inr (.inr (.inl ⟨a,b,rfl,p,rfl,h2,c,λq f=>ih (h3 q f)⟩)))
   ·exact .inr (.inr (.inr (.inr ⟨a,b,rfl,p,rfl,h2,c,λq f=>ih (h3 q f)⟩)))
structure Fk (T:Nat->Prop) (s s':St):Prop where
  n:s'.n=s.n
  fv:∀ {d:Nat}{v r:LV},FV T d s v r->FV T d s' v r
  get:∀ id,¬ T id->s'.get id=s.get id
  dD:∀ {j:Nat}{m:Md}{cs:List LV},s.get j=some (.cells m cs)->∃ m' cs',s'.get j=some (.cells m' cs')/\cs'.length=cs.length
theorem Fk.refl (s:St):Fk T s s:=⟨rfl,λh=>h,λ_ _=>rfl,λh=>⟨_,_,h,rfl⟩⟩
theorem Fk.trans {s s' a:St}(h:Fk T s s') (k:Fk T s' a):Fk T s a:=⟨k.n.trans h.n,λc=>k.fv (h.fv c),λid b=>(k.get id b).trans (h.get id b),λf=>by
 obtain⟨m1,c1,h1,h2⟩:=h.dD f;obtain⟨i,c2,j,m⟩:=k.dD h1;exact⟨i,c2,j,m.trans h2⟩⟩
theorem Fk.shut {d:Nat}{s o:St}{j:Nat}{m m':Md}{cs rs:List LV}(k:Fk T s o) (t:T j) (h1:s.get j=some (.cells m cs)) (h2:rs.length=cs.length) (u:LV.closed.aq rs=true) (h3:∀ i,i<cs.length->FV T d s (cs.getD i .top) (rs.getD i .top)):Fk T s (o.put j (.cells m' rs)):=by
 have x:∃ m1 a,o.get j=some (.cells m1 a)/\rs.length=a.length/\∀ i,i<a.length->FV T d o (a.getD i .top) (rs.getD i .top):=by
  by_cases h0:cs.length=0
  ·obtain⟨m1,c1,f,p⟩:=k.dD h1;exact⟨m1,c1,f,by omega,λi q=>by omega⟩
  ·have y:FV T (d+1) s (.aH j 0) (.aX rs 0):=.inr (.inr (.inl ⟨j,0,m,cs,rs,rfl,rfl,t,h1,by omega,h2,u,h3⟩));rcases k.fv y with⟨z,_⟩ | ⟨_,_,_,_,_,_,_,b,_⟩ | ⟨D,E,m1,a,A,b,B,_,f,F,p,H,r⟩ | ⟨_,_,b,_⟩ | ⟨_,_,b,_⟩
   ·simp[LV.closed]at z
   ·cases b
   ·cases b;cases B;exact⟨m1,a,f,p,r⟩
   ·cases b
   ·cases b
 obtain⟨m1,a,f,p,r⟩:=x;refine⟨k.n,λh=>FV.put f p u r (k.fv h),λid w=>by rw[St.ah,if_neg λe=>w (by rw[e];exact t)];exact k.get id w,fun {i n c} q=>?_⟩;by_cases e:i=j
 ·subst e;rw[h1]at q;cases q;exact⟨m',rs,by rw[St.ah,if_pos rfl],h2⟩
 ·obtain⟨C,c2,g1,g2⟩:=k.dD q;exact⟨C,c2,by rw[St.ah,if_neg e];exact g1,g2⟩
theorem Lg {n d:Nat}(b:∀ {s:St}{v r:LV},FV T d s v r->∃ s',cK n v s=some (r,s')/\Fk T s s'):∀ {cs rs:List LV}{s:St},rs.length=cs.length->(∀ i,i<cs.length->FV T d s (cs.getD i .top) (rs.getD i .top))->∃ s',cK.cu (cK n) cs s=some (rs,s')/\Fk T s s':=by
 intro cs;induction cs with
 | nil=>
   intro rs s hl _;have:rs=[]:=List.length_eq_zero_iff.1 hl;subst this;exact⟨s,rfl,Fk.refl s⟩
 | cons c cs ih=>
   intro rs s hl h;match rs,hl with
   | r::rs,hl=>
     obtain⟨f,h1,a⟩:=b (s:=s) (v:=c) (r:=r) (by simpa using h 0 (by simp));obtain⟨j,h2,k⟩:=ih (rs:=rs) (s:=f) (by simpa using hl) (λi m=>a.fv (by simpa using h (i+1) (by simpa using m)));exact⟨j,by simp[cK.cu,h1,h2],a.trans k⟩
theorem XU:∀ {d n:Nat}{s:St}{v r:LV},FV T d s v r->∃ s',cK (n+d+1) v s=some (r,s')/\Fk T s s':=by
 intro d;induction d with
 | zero=>
   intro n s v r h;obtain⟨f,rfl⟩:=h;exact⟨s,by unfold cK;simp[f],Fk.refl s⟩
 | succ d ih=>
   intro n s v r h;have c:=fun {cs rs:List LV}{s:St} => Lg (T:=T) (n:=n+d+1) (d:=d) (λh=>ih h) (cs:=cs) (rs:=rs) (s:=s);rcases h with⟨f,rfl⟩ | ⟨j,off,k,p,m,cs,rs,rfl,rfl,i,h1,h0,h2,b,h3⟩ | ⟨j,off,m,cs,rs,rfl,rfl,i,h1,h0,h2,b,h3⟩ | ⟨cs,rs,rfl,o,rfl,h2,b,h3⟩ | ⟨cs,rs,rfl,o,rfl,h2,b,h3⟩
   ·exact⟨s,by unfold cK;simp[f],Fk.refl s⟩
   ·obtain⟨a,a1,a2⟩:=c h2 h3;refine⟨a.put j (.cells (if m = .mut then .app else m) rs),?_,a2.shut i h1 h2 b h3⟩;show cK ((n+d+1)+1) _ _=_;unfold cK;simp only[LV.closed,Bool.false_eq_true,if_false,h1,h0,if_true,a1,Option.bind_eq_bind,Option.bind_some]
   ·obtain⟨a,a1,a2⟩:=c h2 h3;refine⟨a.put j (.cells (if m = .mut then .app else m) rs),?_,a2.shut i h1 h2 b h3⟩;show cK ((n+d+1)+1) _ _=_;unfold cK;simp only[LV.closed,Bool.false_eq_true,if_false,h1,h0,if_true,a1,Option.bind_eq_bind,Option.bind_some]
   ·obtain⟨a,a1,a2⟩:=c h2 h3;refine⟨a,?_,a2⟩;show cK ((n+d+1)+1) _ _=_;unfold cK;simp only[o,Bool.false_eq_true,if_false,a1,Option.bind_eq_bind,Option.bind_some]
   ·obtain⟨a,a1,a2⟩:=c h2 h3;refine⟨a,?_,a2⟩;show cK ((n+d+1)+1) _ _=_;unfold cK;simp only[o,Bool.false_eq_true,if_false,a1,Option.bind_eq_bind,Option.bind_some]
theorem Je {d:Nat}{s:St}{v r:LV}(a:d<=39) (h:FV T d s v r):∃ s',cK aY v s=some (r,s')/\Fk T s s':=by
 have:=XU (n:=39 - d) h;rwa[show 39 - d+d+1=aY by unfold aY;omega]at this
theorem FV.row {d:Nat}{s:St}{v:LV}{aU n:Nat}{cells:List LV}(h:dQ s v aU cells n) (a:LV.closed.aq cells=true) (b:∀ id,aP v id->T id):∃ r,FV T (d+1) s v r/\Sl r cells n:=by
 obtain⟨hl,⟨rfl,h0⟩ | ⟨j,rfl,k,m,c⟩⟩:=h
 ·have:cells=[]:=List.length_eq_zero_iff.1 (by rw[hl,h0,Nat.zero_mul]);subst this;subst h0;exact⟨.aj,FV.shut rfl, .nil⟩
 ·refine⟨.aB cells n, .inr (.inl ⟨j,0,n,aU, .mut,cells,cells,rfl,?_,b j (aC.2 rfl),c,by omega,rfl,a,λi f=>FV.shut (dh a f)⟩), .aB _ _⟩;rw[List.drop_zero,List.take_of_length_le om]
end
end Go.Pv
end
