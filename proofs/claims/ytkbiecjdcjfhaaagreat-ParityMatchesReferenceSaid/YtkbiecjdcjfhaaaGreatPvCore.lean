/- Plain values, plain code: the data types of the second semantics and its operations, as functions. No program is in sight. -/
import Derived.AtR
import Derived.Laws.World
import Derived.Laws.Sem
import Derived.Below
import Derived.Test.YtkbiecjdcjfhaaaGreatOm
set_option linter.unusedSimpArgs false
set_option linter.unusedVariables false
set_option maxRecDepth 100000
set_option maxHeartbeats 16000000
section
namespace Go.Pv
open Go
inductive LV where
  | top
  | bool (b:Bool)
  | int (k:IntKind) (n:Int)
  | str (s:ByteArray)
  | agg (cs:List LV)
  | cE (vs:List LV)
  | eS
  | aY (cs:List LV) (off:Nat)
  | aO (id off:Nat)
  | aq
  | zs
  | aF (cs:List LV) (len:Nat)
  | aE (id off len aZ:Nat)
  | fn (f:Fn) (first caps:List LV)
  | js
  | rG (id:Nat)
  | su (t:TypeId) (v:LV)
  | lU
  | cm
  | aR (id:Nat)
  deriving Inhabited
inductive Tr (α:Type) where
  | nil
  | node (l:Tr α) (v:Option α) (r:Tr α)
def Tr.get {α:Type} : Tr α->Nat->Option α
 | .nil,_=>none
 | .node l v r,i=>if i=0 then v else if i % 2=1 then l.get (i / 2) else r.get (i / 2 - 1)
def Tr.left {α:Type} : Tr α->Tr α | .nil=>.nil | .node l _ _=>l
def Tr.here {α:Type} : Tr α->Option α | .nil=>none | .node _ v _=>v
def Tr.right {α:Type} : Tr α->Tr α | .nil=>.nil | .node _ _ r=>r
def Tr.OE {α:Type}(a:α):Nat->Tr α->Nat->Tr α
 | 0,t,_=>t
 | n+1,t,i=>
   if i=0 then .node t.left (some a) t.right
   else if i % 2=1 then .node (Tr.OE a n t.left (i / 2)) t.here t.right
   else .node t.left t.here (Tr.OE a n t.right (i / 2 - 1))
def Tr.set {α:Type}(t:Tr α) (i:Nat) (a:α):Tr α:=Tr.OE a (i+1) t i
theorem Tr.get_eq {α:Type}(t:Tr α) (i:Nat):t.get i=if i=0 then t.here else if i % 2=1 then t.left.get (i / 2) else t.right.get (i / 2 - 1):=by
 cases t with
 | nil=>simp[Tr.get,Tr.here,Tr.left,Tr.right]
 | node l v r=>simp[Tr.get,Tr.here,Tr.left,Tr.right]
theorem Tr.RK {α:Type}(a:α):∀ (n:Nat) (t:Tr α) (i j:Nat),i<n->(Tr.OE a n t i).get j=if j=i then some a else t.get j:=by
 intro n;induction n with
 | zero=>intro t i j h;omega
 | succ n ih=>
   intro t i j h;unfold Tr.OE;by_cases h0:i=0
   ·subst h0;simp only[if_true];rw[Tr.get_eq t j];by_cases b:j=0
    ·simp[b,Tr.get]
    ·simp[b,Tr.get]
   ·by_cases h1:i % 2=1
    ·rw[if_neg h0,if_pos h1,Tr.get_eq t j];simp only[Tr.get];by_cases b:j=0
     ·have:¬ (0=i):=by omega
      simp[b,this]
     ·by_cases c:j % 2=1
      ·simp only[b,c,if_false,if_true];rw[ih _ _ _ om];by_cases e:j=i
       ·subst e;simp
       ·rw[if_neg e,if_neg om]
      ·have:¬ (j=i):=by intro e;subst e;exact c h1
       simp[b,c,this]
    ·rw[if_neg h0,if_neg h1,Tr.get_eq t j];simp only[Tr.get];by_cases b:j=0
     ·have:¬ (0=i):=by omega
      simp[b,this]
     ·by_cases c:j % 2=1
      ·have:¬ (j=i):=by intro e;subst e;exact h1 c
       simp[b,c,this]
      ·simp only[b,c,if_false];rw[ih _ _ _ om];by_cases e:j=i
       ·subst e;simp
       ·rw[if_neg e,if_neg om]
@[simp] theorem Tr.Dl {α:Type}(t:Tr α) (i j:Nat) (a:α):(t.set i a).get j=if j=i then some a else t.get j:=
  Tr.RK a _ t i j (Nat.lt_succ_self i)
@[simp] theorem Tr.get_nil {α:Type}(i:Nat):(Tr.nil:Tr α).get i=none:=rfl
abbrev Env:=Tr LV
def Env.at (e:Env) (i:Nat):LV:=(Tr.get e i).getD .top
@[simp] theorem Env.rC (e:Env) (i j:Nat) (v:LV):Env.at (Tr.set e i v) j=if j=i then v else Env.at e j:=by
  unfold Env.at;rw[Tr.Dl];split<;>rfl
@[simp] theorem Env.at_nil (i:Nat):Env.at .nil i = .top:=rfl
def Env.put (e:Env) (dst:Option Nat) (v:LV):Env:=match dst with | some d=>Tr.set e d v | none=>e
@[simp] theorem Env.aB (e:Env) (d:Nat) (v:LV):Env.put e (some d) v=Tr.set e d v:=rfl
@[simp] theorem Env.cp (e:Env) (v:LV):Env.put e none v=e:=rfl
inductive bF where
  | t (i:Nat)
  | c (v:LV)
  deriving Inhabited
def bF.ev (e:Env):bF->LV
 | .t i=>e.at i
 | .c v=>v
@[simp] theorem bF.ev_t (e:Env) (i:Nat):(bF.t i).ev e=e.at i:=rfl
@[simp] theorem bF.ev_c (e:Env) (v:LV):(bF.c v).ev e=v:=rfl
inductive cT where
  | bool | int | str
  | ptr | Li | mp | fnc | su
  | struct (fs:List (Nat × Nat × cT))
  deriving Inhabited
inductive Dw where
  | int (k:IntKind)
  | str
  | st (es:List (Nat × Nat × cT))
  deriving Inhabited
inductive bq where
  | mv (x:bF)
  | pick (c a b:bF)
  | box (im:Bool) (x:bF)
  | alloc (zero:List LV)
  | build (zero:List LV) (parts:List (Nat × Nat × bF))
  | bu (aZ len:Nat) (zero:List LV) (parts:List (Nat × Nat × bF))
  | load (n:Option Nat) (x:bF)
  | store (n:Nat) (a x:bF)
  | vD (x:bF)
  | bin (op:BinOp) (x y:bF)
  | eq (neg:Bool) (t:cT) (x y:bF)
  | un (op:UnOp) (x:bF)
  | k9 (k:IntKind) (x:bF)
  | uP (x:bF)
  | uk (f:Fn) (first caps:List bF)
  | cH (aZ bytes:Nat) (zero:List LV) (len cap:bF)
  | slice (aZ:Nat) (x:bF) (lo hi:Option bF)
  | pW (x:bF) (lo hi:Option bF)
  | sY (off:Nat) (x:bF)
  | field (off:Nat) (n:Option Nat) (x:bF)
  | wj (aZ:Nat) (x i:bF)
  | uy (aZ len:Nat) (x i:bF)
  | ux (aZ len:Nat) (n:Option Nat) (x i:bF)
  | qq (x i:bF)
  | ext (x:bF) (i:Nat)
  | yL (x:bF)
  | yK (x:bF)
  | CP (n:Nat)
  | append (aZ bytes:Nat) (x y:bF)
  | xQ (aZ bytes:Nat) (x y:bF)
  | copy (aZ:Nat) (x y:bF)
  | vr (x lo hi mx:bF)
  | mA (x:bF)
  | iT (x:Option bF)
  | gp (kd:Dw) (zero:LV) (ok:Bool) (m k:bF)
  | mZ (kd:Dw) (m k v:bF)
  | kF (x:bF)
  | Sd (x:bF)
  | Nl (aZ bytes:Nat) (zero:List LV) (x n:bF)
  | oA (x:bF)
  | kN (x:bF)
  | oB (x:bF)
  | ju (isMax:Bool) (xs:List bF)
  | clr (aZ:Nat) (zero:List LV) (x:bF)
  | nE (aZ n:Nat) (x:bF) (lo hi:Option bF)
  | call (f:bF) (args:List bF)
  | RX (neg:Bool) (x y:bF)
  deriving Inhabited
structure bC where
  dst:Option Nat
  op:bq
  guard:Option (Nat × Bool):=none
  jT:List (Nat × Option (Nat × Bool) × bq):=[]
  /-- 'MZ: the order is drawn here. -/
  fl:Bool:=false
  deriving Inhabited
inductive bx where
  | skip
  | region (ops:List bC)
  | alts (ls:List (List bC))
  | seq (a b:bx)
  | cond (c:bF) (a b:bx)
  | block (id:Nat) (c:bx)
  | loop (c:bx)
  | rangeFunc (f:bF) (ps:List Nat) (assign body:bx)
  | exit (id:Nat)
  | scope (c:bx)
  | ret
  | bad
  deriving Inhabited
inductive Jj where
  | tmp (t:Nat)
  | cell (t:Nat) (n:Option Nat)
  deriving Inhabited
structure bh where
  ntmps:Nat
  results:List Jj
  body:bx
  deriving Inhabited
inductive Dx where
  | ret
  | exit (id:Nat)
inductive Md where
  | mut | app | ro
  deriving DecidableEq,Inhabited
inductive jU where
  | cells (m:Md) (cs:List LV)
  | map (es:List (LV × LV))
  /-- a walk over a map: the map,how many entries it held at first,which have been seen,how many it held at the last step -/
  | iter (m:Option Nat) (n0:Nat) (seen:List Nat) (last:Nat)
  | loop (st:LoopState) (cv:Option Dx) (env:Env) (ps:List Nat) (assign body:bx)
structure St where
  n:Nat
  h:Tr jU
def St.get (s:St) (id:Nat):Option jU:=s.h.get id
def St.put (s:St) (id:Nat) (b:jU):St:={ s with h:=s.h.set id b }
def St.new (s:St) (b:jU):St:=⟨s.n+1,s.h.set s.n b⟩
def St.empty:St:=⟨0, .nil⟩
@[simp] theorem St.az (s:St) (id j:Nat) (b:jU):(s.put id b).get j=if j=id then some b else s.get j:=Tr.Dl _ _ _ _
@[simp] theorem St.aA (s:St) (j:Nat) (b:jU):(s.new b).get j=if j=s.n then some b else s.get j:=Tr.Dl _ _ _ _
@[simp] theorem St.eo (s:St) (id:Nat) (b:jU):(s.put id b).n=s.n:=rfl
@[simp] theorem St.fW (s:St) (b:jU):(s.new b).n=s.n+1:=rfl
@[simp] theorem St.get_empty (j:Nat):St.empty.get j=none:=rfl
def bf:LV->Bool
 | .agg _ | .top | .cE _=>false
 | _=>true
def cells? : LV->Option (List LV)
 | .agg cs=>if cs.all bf then some cs else none
 | .top | .cE _=>none
 | v=>some [v]
def eC:LV:=.cE []
def LV.closed:LV->Bool
 | .top=>false
 | .bool _ | .int .. | .str _ | .eS | .aq | .zs | .js | .lU | .cm=>true
 | .agg cs=>au cs
 | .cE cs=>au cs
 | .aY cs _=>au cs
 | .aF cs _=>au cs
 | .fn _ a b=>au a && au b
 | .su _ v=>v.closed
 | .aO .. | .aE .. | .rG _ | .aR _=>false
 where au:List LV->Bool
 | []=>true
 | v::r=>v.closed && au r
def cY : Nat -> LV -> St -> Option (LV × St)
 | 0,_,_=>none
 | n + 1, v, s =>
   if v.closed then some (v,s) else
   match v with
   | .agg cs=>do let (cs,s) <- cM (cY n) cs s;some (.agg cs,s)
   | .cE cs=>do let (cs,s) <- cM (cY n) cs s;some (.cE cs,s)
   | .su t v=>do let (v,s) <- cY n v s;some (.su t v,s)
   | .fn f a b=>do let (a,s) <- cM (cY n) a s;let (b,s) <- cM (cY n) b s;some (.fn f a b,s)
   | .aE id off len aZ=>
     match s.get id with
     | some (.cells m cs) =>
       if off+len*aZ<=cs.length then do
        let (cs,s) <- cM (cY n) cs s;some (.aF ((cs.drop off).take (len*aZ)) len,s.put id (.cells (if m = .mut then .app else m) cs))
       else none
     | _=>none
   | .aO id off=>
     match s.get id with
     | some (.cells m cs) =>
       if off<cs.length then do
        let (cs,s) <- cM (cY n) cs s;some (.aY cs off,s.put id (.cells (if m = .mut then .app else m) cs))
       else none
     | _=>none
   | _=>none
 where cM (f:LV->St->Option (LV × St)):List LV->St->Option (List LV × St)
 | [],s=>some ([],s)
 | v::r,s=>do let (v,s) <- f v s;let (r,s) <- cM f r s;some (v::r,s)
def bp:Nat:=40
def gC (l:List LV) (s:St):List LV × St:=
 match cY.cM (cY bp) l s with
 | some r=>r
 | none=>(l,s)
def splice:List LV->Nat->List LV->List LV
 | cs,_,[]=>cs
 | cs,off,v::vs=>splice (cs.set off v) (off+1) vs
theorem mX (vs:List LV):∀ (cs:List LV) (off:Nat),(splice cs off vs).length=cs.length:=by
 induction vs with
 | nil=>intros;rfl
 | cons v vs ih=>intro cs off;simp[splice,ih]
def bG (n:Option Nat) (cs:List LV) (off:Nat):Option LV:=
 match n with
 | none=>cs[off]?
 | some k=>if off+k<=cs.length then some (.agg ((cs.drop off).take k)) else none
def aU:List LV->List (Nat × Nat × LV)->Option (List LV)
 | cs,[]=>some cs
 | cs,(off,size,v)::r=>
   match cells? v with
   | some vs=>if vs.length=size/\off+size<=cs.length then aU (splice cs off vs) r else none
   | none=>none
def bt (e:Env) (ls:List (Nat × Nat × bF)):List (Nat × Nat × LV):=ls.map λq=>(q.1,q.2.1,q.2.2.ev e)
def Ia (op:BinOp) (k:IntKind) (x y:Int):Option LV:=
 match op with
 | .add=>some (.int k (k.wrap (x+y)))
 | .sub=>some (.int k (k.wrap (x - y)))
 | .mul=>some (.int k (k.wrap (x*y)))
 | .quo=>if y=0 then none else some (.int k (k.wrap (x.tdiv y)))
 | .rem=>if y=0 then none else some (.int k (x.tmod y))
 | .and=>some (.int k (k.wrap ((BitVec.ofInt k.bits x &&& BitVec.ofInt k.bits y).toNat)))
 | .or=>some (.int k (k.wrap ((BitVec.ofInt k.bits x ||| BitVec.ofInt k.bits y).toNat)))
 | .xor=>some (.int k (k.wrap ((BitVec.ofInt k.bits x ^^^ BitVec.ofInt k.bits y).toNat)))
 | .andNot=>some (.int k (k.wrap ((BitVec.ofInt k.bits x &&& ~~~ BitVec.ofInt k.bits y).toNat)))
 | .eql=>some (.bool (x == y))
 | .neq=>some (.bool (x != y))
 | .lss=>some (.bool (x<y))
 | .leq=>some (.bool (x<=y))
 | .gtr=>some (.bool (x > y))
 | .geq=>some (.bool (x ≥ y))
 | _=>none
def G9 (op:BinOp) (x y:ByteArray):Option LV:=
 let eq:=x.toList == y.toList;let lt:=Op.bytesLess x.toList y.toList;match op with
 | .add=>if ((x.size+y.size:Nat):Int) > IntKind.i64.max then none else some (.str (x++y))
 | .eql=>some (.bool eq)
 | .neq=>some (.bool !eq)
 | .lss=>some (.bool lt)
 | .leq=>some (.bool (lt || eq))
 | .gtr=>some (.bool !(lt || eq))
 | .geq=>some (.bool !lt)
 | _=>none
def kr (op:BinOp):LV->LV->Option LV
 | .int k x, .int a y=>
   match op with
   | .shl=>if y<0 then none else some (.int k (k.wrap (x*2 ^ (min y.toNat k.bits))))
   | .shr=>if y<0 then none else some (.int k (x.fdiv (2 ^ (min y.toNat k.bits))))
   | _=>if k=a then Ia op k x y else none
 | .str x, .str y=>G9 op x y
 | _,_=>none
def Cr:cT->LV->LV->Option Bool
 | .bool, .bool a, .bool b=>some (a == b)
 | .int, .int k a, .int c b=>if k=c then some (a == b) else none
 | .str, .str a, .str b=>some (a == b)
 | _,_,_=>none
def mw:cT->LV->LV->Option Bool
 | .ptr, .eS, .eS=>some true
 | .ptr, .eS, .aY .. | .ptr, .eS, .aO .. | .ptr, .aY .., .eS | .ptr, .aO .., .eS=>some false
 | .Li, .aq, .zs | .Li, .zs, .aq=>some false
 | .Li, .aq, .aq=>some true
 | .Li, .aq, .aF .. | .Li, .aq, .aE .. | .Li, .aF .., .aq | .Li, .aE .., .aq=>some false
 | .mp, .cm, .cm=>some true
 | .mp, .cm, .aR _ | .mp, .aR _, .cm=>some false
 | .fnc, .js, .js=>some true
 | .fnc, .js, .fn .. | .fnc, .fn .., .js=>some false
 | .su, .lU, .su .. | .su, .su .., .lU=>some false
 | .struct fs, .agg xs, .agg ys=>eqFields fs xs ys
 | t,x,y=>Cr t x y
 where eqFields:List (Nat × Nat × cT)->List LV->List LV->Option Bool
 | [],_,_=>some true
 | (off,_,t)::r,xs,ys=>
   match xs[off]?,ys[off]? with
   | some x,some y=>
     match Cr t x y with
     | some true=>eqFields r xs ys
     | some false=>some false
     | none=>none
   | _,_=>none
def iI (op:UnOp):LV->Option LV
 | .int k n=>match op with
   | .neg=>some (.int k (k.wrap (0 - n)))
   | _=>none
 | .bool b=>match op with | .not=>some (.bool !b) | _=>none
 | _=>none
def idxOf (len:Nat):LV->Option Nat
 | .int _ i=>if 0<=i/\i<len then some i.toNat else none
 | _=>none
def mB (d:Nat) (max:Nat):Option LV->Option Nat
 | none=>some d
 | some (.int _ i)=>if 0<=i/\i<=max then some i.toNat else none
 | some _=>none
def big:Nat:=2 ^ 32
def rep (n:Nat) (zero:List LV):List LV:=(List.replicate n zero).flatten
def o8:LV->Option Nat
 | .aq=>some 0
 | .zs=>some 0
 | .aF _ n=>some n
 | .aE _ _ n _=>some n
 | .str s=>some s.size
 | _=>none
def ji:LV->Option Nat
 | .aq=>some 0
 | .zs=>some 0
 | .aF _ n=>some n
 | .aE _ _ n _=>some n
 | _=>none
def rowOf (s:St) (aZ n:Nat):LV->Option (List LV)
 | .aq=>if n=0 then some [] else none
 | .zs=>if n=0 then some [] else none
 | .aF cs len=>if n<=len/\len*aZ=cs.length then some (cs.take (n*aZ)) else none
 | .aE id off len e=>
   match s.get id with
   | some (.cells _ cs)=>if e=aZ/\n<=len/\off+len*aZ<=cs.length then some ((cs.drop off).take (n*aZ)) else none
   | _=>none
 | .str b=>if aZ=1/\n<=b.size then some ((b.data.toList.take n).map λx=>.int .u8 x.toNat) else none
 | _=>none
def bT (aZ:Nat) (bytes:Nat) (x:LV) (new:List LV) (k:Nat) (s:St):Option (LV × St) :=
 match x with
 | .zs=>if k=0 then some (.zs,s) else if k*bytes<=big/\new.length=k*aZ then some (.aE s.n 0 k aZ,s.new (.cells .mut new)) else none
 | .aq=>if k=0 then some (.aq,s) else if k*bytes<=big/\new.length=k*aZ then some (.aE s.n 0 k aZ,s.new (.cells .mut new)) else none
 | .aE id off len e=>
   if e=aZ then
   match s.get id with
   | some (.cells .mut cs) =>
     if off+len*aZ<=cs.length/\(len+k)*bytes<=big/\new.length=k*aZ then
      some (.aE s.n 0 (len+k) aZ,⟨s.n+1,(s.h.set id (.cells .ro [])).set s.n (.cells .mut ((cs.drop off).take (len*aZ)++new))⟩)
     else none
   | some (.cells .app cs) =>
     if off+len*aZ=cs.length/\(len+k)*bytes<=big/\new.length=k*aZ then
      some (.aE s.n 0 (len+k) aZ,⟨s.n+1,(s.h.set id (.cells .ro cs)).set s.n (.cells .app ((cs.drop off).take (len*aZ)++new))⟩)
     else none
   | _=>none
   else none
 | _=>none
def uq:LV->LV->Option Bool
 | .int k a, .int c b=>if k=c then some (a == b) else none
 | .str a, .str b=>some (decide (a.data.toList=b.data.toList))
 | _,_=>none
def YB:LV->Bool
 | .int .. => true
 | _=>false
def lM:List LV->List LV->Bool
 | [],[]=>true
 | .int k a::r, .int c b::r'=>k == c && a == b && lM r r'
 | _,_=>false
def ki:Dw->LV->Bool
 | .int k, .int a _=>a == k
 | .str, .str _=>true
 | .st es, .agg cs=>es.all (λf=>f.1<cs.length) && cs.all YB
 | _,_=>false
def m8:Dw->LV->LV->Option Bool
 | .st es, .agg xs, .agg a=>
   match mw.eqFields es xs a with
   | some true=>if lM xs a then some true else none
   | r=>r
 | .st _,_,_=>none
 | _,x,y=>uq x y
def iE (kd:Dw) (k:LV):List (LV × LV)->Nat->Option (Option (Nat × LV))
 | [],_=>some none
 | (a,v)::r,i=>
   match m8 kd k a with
   | some true=>some (some (i,v))
   | some false=>iE kd k r (i+1)
   | none=>none
def bytesOf:List LV->Option (List UInt8)
 | []=>some []
 | .int .u8 n::r=>do some (UInt8.ofNat n.toNat::(<- bytesOf r))
 | _=>none
def eZ (isMax:Bool):List LV->Option LV
 | .int k x::rest=>(go k x rest).map (.int k)
 | _=>none
 where go (k:IntKind) (x:Int):List LV->Option Int
 | []=>some x
 | .int k' y::r=>if k=k' then go k (if isMax then (if y > x then y else x) else (if y<x then y else x)) r else none
 | _=>none
def aK:Option (Nat × Bool)->Env->Option Bool
 | none,_=>some true
 | some (d,a),e=>match e.at d with | .bool b=>some (b == a) | .cE _=>some false | _=>none
def bq.run (o:bq) (e:Env) (s:St):Option (LV × St) :=
 match o with
 | .mv x=>some (x.ev e,s)
 | .pick c a b=>match c.ev e with | .bool t=>some (if t then a.ev e else b.ev e,s) | _=>none
 | .box true x=>do
   let (v,s) <- cY bp (x.ev e) s;let cs <- cells? v;if cs.length=0 then none else some (.aY cs 0,s)
 | .box false x=>do
   let cs <- cells? (x.ev e);some (.aO s.n 0,s.new (.cells .mut cs))
 | .alloc z=>some (.aO s.n 0,s.new (.cells .mut z))
 | .build z ps=>do
   let cs <- aU z (bt e ps);some (.agg cs,s)
 | .bu d len z ps=>do
   let cs <- aU (rep len z) (bt e ps);some (.aE s.n 0 len d,s.new (.cells .mut cs))
 | .load n x=>
   match x.ev e with
   | .aY cs off=>do some (<- bG n cs off,s)
   | .aO id off=>match s.get id with | some (.cells _ cs)=>do some (<- bG n cs off,s) | _=>none
   | _=>none
 | .store n a x=>
   match a.ev e,cells? (x.ev e) with
   | .aO id off,some vs=>
     match s.get id with
     | some (.cells .mut cs)=>if vs.length=n/\off+n<=cs.length then some (eC,s.put id (.cells .mut (splice cs off vs))) else none
     | _=>none
   | _,_=>none
 | .vD x=>match x.ev e with | .aY c o=>some (.aY c o,s) | .aO i o=>some (.aO i o,s) | .fn (.func f) a b=>some (.fn (.func f) a b,s) | .rG i=>some (.rG i,s) | _=>none
 | .bin op x y=>do some (<- kr op (x.ev e) (y.ev e),s)
 | .eq neg t x y=>do let b <- mw t (x.ev e) (y.ev e);some (.bool (if neg then !b else b),s)
 | .un op x=>do some (<- iI op (x.ev e),s)
 | .k9 k x=>match x.ev e with | .int _ n=>some (.int k (k.wrap n),s) | _=>none
 | .uP x=>match x.ev e with | .str b=>some (.str b,s) | _=>none
 | .uk f a b=>some (.fn f (a.map (·.ev e)) (b.map (·.ev e)),s)
 | .cH d bytes z l c=>
   match l.ev e,c.ev e with
   | .int _ l, .int _ c=>if 0<=l/\l<=c/\c*bytes<=big/\c<=big/\z.length=d then some (.aE s.n 0 l.toNat d,s.new (.cells .mut (rep l.toNat z))) else none
   | _,_=>none
 | .slice d x j p=>
   match x.ev e with
   | .zs=>do
     let h <- mB 0 0 (p.map (·.ev e));let l <- mB 0 h (j.map (·.ev e));if l=0/\h=0 then some (.zs,s) else none
   | .aq=>do
     let h <- mB 0 0 (p.map (·.ev e));let l <- mB 0 h (j.map (·.ev e));if l=0/\h=0 then some (.aq,s) else none
   | .aF cs len=>do
     let h <- mB len len (p.map (·.ev e));let l <- mB 0 h (j.map (·.ev e));if cs.length=len*d then some (.aF ((cs.drop (l*d)).take ((h - l)*d)) (h - l),s) else none
   | .aE id off len g=>do
     let h <- mB len len (p.map (·.ev e));let l <- mB 0 h (j.map (·.ev e));if g=d then some (.aE id (off+l*d) (h - l) d,s) else none
   | _=>none
 | .pW x j p=>
   match x.ev e with
   | .str b=>do
     let h <- mB b.size b.size (p.map (·.ev e));let l <- mB 0 h (j.map (·.ev e));some (.str (b.extract l h),s)
   | _=>none
 | .sY off x=>match x.ev e with | .aY cs o=>some (.aY cs (o+off),s) | .aO i o=>some (.aO i (o+off),s) | _=>none
 | .field off n x=>match x.ev e with | .agg cs=>do some (<- bG n cs off,s) | _=>none
 | .wj d x i=>
   match x.ev e with
   | .aF cs len=>do let k <- idxOf len (i.ev e);some (.aY cs (k*d),s)
   | .aE id off len g=>do let k <- idxOf len (i.ev e);if g=d then some (.aO id (off+k*d),s) else none
   | _=>none
 | .uy d len x i=>
   match x.ev e with
   | .aY cs o=>do let k <- idxOf len (i.ev e);some (.aY cs (o+k*d),s)
   | .aO id o=>do let k <- idxOf len (i.ev e);some (.aO id (o+k*d),s)
   | _=>none
 | .ux d len n x i=>match x.ev e with | .agg cs=>do let k <- idxOf len (i.ev e);some (<- bG n cs (k*d),s) | _=>none
 | .qq x i=>match x.ev e with | .str b=>do let k <- idxOf b.size (i.ev e);some (.int .u8 ((b.data.getD k 0).toNat),s) | _=>none
 | .ext x i=>match x.ev e with | .cE vs=>do some (<- vs[i]?,s) | _=>none
 | .yL x=>do some (.int .i64 (<- ji (x.ev e)),s)
 | .yK x=>match x.ev e with | .str b=>some (.int .i64 b.size,s) | _=>none
 | .CP n=>some (.int .i64 n,s)
 | .append d bytes x y=>do
   let n <- o8 (y.ev e);let new <- rowOf s d n (y.ev e);let (new,s):=gC new s;bT d bytes (x.ev e) new n s
 | .xQ d bytes x y=>do
   let n <- o8 (y.ev e);let new <- rowOf s d n (y.ev e);bT d bytes (x.ev e) new n s
 | .copy d x y=>do
   let n <- o8 (y.ev e);match x.ev e with
   | .aE id off len g=>
     let k:=min n len;let new <- rowOf s d k (y.ev e);match s.get id with
     | some (.cells .mut cs)=>if g=d/\off+len*d<=cs.length then some (.int .i64 k,s.put id (.cells .mut (splice cs off new))) else none
     | _=>none
   | .aq=>some (.int .i64 0,s)
   | _=>none
 | .vr x j p u=>
   match j.ev e,p.ev e,u.ev e,ji (x.ev e) with
   | .int _ l, .int _ h, .int _ m,some len=>
     if l=h/\h=m/\0<=l/\l<=len then (match x.ev e with | .aq=>some (.aq,s) | .top=>none | _=>some (.zs,s)) else none
   | _,_,_,_=>none
 | .mA x=>do
   let n <- ji (x.ev e);let cs <- rowOf s 1 n (x.ev e);let A <- bytesOf cs;some (.str ⟨A.toArray⟩,s)
 | .iT x=>
   match x with
   | none=>some (.aR s.n,s.new (.map []))
   | some y=>match y.ev e with | .int _ _=>some (.aR s.n,s.new (.map [])) | _=>none
 | .gp kd zero ok m k=>
   if ki kd (k.ev e) then
   match m.ev e with
   | .cm=>some (if ok then .cE [zero, .bool false] else zero,s)
   | .aR id=>
     match s.get id with
     | some (.map g)=>do
       let r <- iE kd (k.ev e) g 0;let (v,b):=match r with | some (_,v)=>(v,true) | none=>(zero,false)
       some (if ok then .cE [v, .bool b] else v,s)
     | _=>none
   | _=>none
   else none
 | .mZ kd m k v=>
   if ki kd (k.ev e) then
   match m.ev e with
   | .aR id=>
     match s.get id with
     | some (.map g)=>do
       let r <- iE kd (k.ev e) g 0;match r with
       | some (i,_)=>some (eC,s.put id (.map (g.set i (k.ev e,v.ev e))))
       | none=>some (eC,s.put id (.map (g++[(k.ev e,v.ev e)])))
     | _=>none
   | _=>none
   else none
 | .kF x=>
   match x.ev e with
   | .cm=>some (.int .i64 0,s)
   | .aR id=>match s.get id with | some (.map g)=>some (.int .i64 g.length,s) | _=>none
   | _=>none
 | .Sd x=>match x.ev e with | .aq=>some (.int .i64 0,s) | .zs=>some (.int .i64 0,s) | _=>none
 | .Nl d bytes z x n=>
   match x.ev e,n.ev e with
   | .aq, .int _ k=>
     if k=0 then some (.aq,s)
     else if 0<k/\k*bytes<=big/\k<=big then some (.aE s.n 0 k.toNat d,s.new (.cells .mut (rep k.toNat z))) else none
   | _,_=>none
 | .oA x=>
   match x.ev e with
   | .cm=>some (.aO s.n 0,s.new (.iter none 0 [] 0))
   | .aR id=>match s.get id with | some (.map g)=>some (.aO s.n 0,s.new (.iter (some id) g.length [] g.length)) | _=>none
   | _=>none
 | .kN _=>none
 | .oB x=>
   match x.ev e with
   | .aO id 0=>
     match s.get id with
     | some (.iter (some m) _ seen q) =>
       match s.get m with
       | some (.map g) =>
         match seen.getLast? with
         | some i=>if g.length=q/\i<g.length then some (.cE [(g.getD i default).1,(g.getD i default).2],s) else none
         | none=>none
       | _=>none
     | _=>none
   | _=>none
 | .ju m xs=>do some (<- eZ m (xs.map (·.ev e)),s)
 | .nE d n x j p=>
   match x.ev e with
   | .aO id off=>do
     let h <- mB n n (p.map (·.ev e));let l <- mB 0 h (j.map (·.ev e));match s.get id with
     | some (.cells .mut cs)=>if off+n*d<=cs.length then some (.aE id (off+l*d) (h - l) d,s) else none
     | _=>none
   | _=>none
 | .clr d z x=>
   match x.ev e with
   | .aq=>some (eC,s)
   | .zs=>some (eC,s)
   | .aE id off len g=>
     if len=0 then some (eC,s) else
     match s.get id with
     | some (.cells .mut cs)=>if g=d/\z.length=d/\off+len*d<=cs.length then some (eC,s.put id (.cells .mut (splice cs off (rep len z)))) else none
     | _=>none
   | _=>none
 | .call .. => none
 | .RX .. => none
def agree:LV->LV->Bool
 | .int k a, .int k' b=>k == k' && a == b
 | .str a, .str b=>a.data.toList == b.data.toList
 | .bool a, .bool b=>a == b
 | .aq, .aF _ _=>false
 | .aF _ _, .aq=>false
 | .aF cs n, .aF cs' n'=>n == n' && vL cs cs'
 | _,_=>true
 where vL:List LV->List LV->Bool
 | a::r,b::r'=>agree a b && vL r r'
 | _,_=>true
def vH:LV->Bool
 | .aq | .zs | .aF _ _=>true
 | _=>false
def CV:LV->Bool
 | .int .. | .str _ | .bool _=>true
 | _=>false
def ownId:Nat:=4294967295
def CF (G:List (Nat × List LV)):Bool:=G.any (λx=>x.1 == ownId && x.2.isEmpty) && G.all λx=>x.2.all CV
def bF.tmps:bF->List Nat
 | .t i=>[i]
 | .c _=>[]
def cu:Option bF->List Nat
 | some x=>x.tmps
 | none=>[]
def bq.tmps:bq->List Nat
 | .mv x | .box _ x | .load _ x | .vD x | .un _ x | .k9 _ x | .uP x | .sY _ x | .field _ _ x | .ext x _ | .yL x | .yK x | .mA x | .kF x | .Sd x | .oA x | .kN x | .oB x=>x.tmps
 | .pick a b c=>a.tmps++b.tmps++c.tmps
 | .alloc _ | .CP _=>[]
 | .iT x=>cu x
 | .vr a b c d=>a.tmps++b.tmps++c.tmps++d.tmps
 | .gp _ _ _ a b=>a.tmps++b.tmps
 | .mZ _ a b c=>a.tmps++b.tmps++c.tmps
 | .build _ ps | .bu _ _ _ ps=>ps.flatMap λq=>q.2.2.tmps
 | .store _ a b | .bin _ a b | .eq _ _ a b | .wj _ a b | .uy _ _ a b | .ux _ _ _ a b | .qq a b | .append _ _ a b | .xQ _ _ a b | .Nl _ _ _ a b | .copy _ a b | .cH _ _ _ a b=>a.tmps++b.tmps
 | .uk _ a b=>a.flatMap (·.tmps)++b.flatMap (·.tmps)
 | .slice _ x a b | .pW x a b | .nE _ _ x a b=>x.tmps++cu a++cu b
 | .ju _ xs=>xs.flatMap (·.tmps)
 | .clr _ _ x=>x.tmps
 | .call f as=>f.tmps++as.flatMap (·.tmps)
 | .RX _ a b=>a.tmps++b.tmps
open Go Go.RowKit
structure Place where
  b:Nat
  off:Nat
  cap:Nat
abbrev Mu:=Nat->Option Place
abbrev Io:=Nat->Nat->Prop
inductive Rv (μ:Mu) (ι:Io) (w:World):LV->Value->Prop where
  | top (v:Value):Rv μ ι w .top v
  | bool (b:Bool):Rv μ ι w (.bool b) (.bool b)
  | int (k:IntKind) (n:Int):Rv μ ι w (.int k n) (.int k n)
  | str (s:ByteArray):Rv μ ι w (.str s) (.string s)
  | agg {cs:List LV}{vs:Array Value}(hl:vs.size=cs.length) (h:∀ i,i<cs.length->Rv μ ι w (cs.getD i .top) (vs.getD i undef)):Rv μ ι w (.agg cs) (.agg vs)
  | cE {cs:List LV}{vs:Array Value}(hl:vs.size=cs.length) (h:∀ i,i<cs.length->Rv μ ι w (cs.getD i .top) (vs.getD i undef)):Rv μ ι w (.cE cs) (.tuple vs)
  | eS:Rv μ ι w .eS (.pointer none)
  | aY {cs:List LV}{off b o:Nat}(vs:Nat->Value) (hc:∀ i,i<cs.length->w.cell? ⟨b,o+i,none⟩=some (vs i))
      (hi:∀ i,i<cs.length->ι b (o+i)) (h1:∀ i,i<cs.length->(vs i).oneCell'=true) (h:∀ i,i<cs.length->Rv μ ι w (cs.getD i .top) (vs i)):Rv μ ι w (.aY cs off) (.pointer (some ⟨b,o+off,none⟩))
  | aO {id off:Nat}{p:Place}(hp:μ id=some p):Rv μ ι w (.aO id off) (.pointer (some ⟨p.b,p.off+off,none⟩))
  | aq:Rv μ ι w .aq (.slice none 0 0)
  | zs (a:Addr):Rv μ ι w .zs (.slice (some a) 0 0)
  | aF {cs:List LV}{len b o cap:Nat}(vs:Nat->Value) (hc:∀ i,i<cs.length->w.cell? ⟨b,o+i,none⟩=some (vs i))
      (hi:∀ i,i<cs.length->ι b (o+i)) (h1:∀ i,i<cs.length->(vs i).oneCell'=true) (h:∀ i,i<cs.length->Rv μ ι w (cs.getD i .top) (vs i)) (pM:len<=cap):Rv μ ι w (.aF cs len) (.slice (some ⟨b,o,none⟩) len cap)
  | aE {id off len aZ cap:Nat}{p:Place}{off':Nat}(hp:μ id=some p) (ia:off+cap*aZ<=p.cap) (pM:len<=cap) (tT:cap≠0->off'=off) :
      Rv μ ι w (.aE id off len aZ) (.slice (some ⟨p.b,p.off+off',none⟩) len cap)
  | fn {f:Fn}{a b:List LV}{va vb:Array Value}(hl:va.size=a.length) (oe:vb.size=b.length) (h:∀ i,i<a.length->Rv μ ι w (a.getD i .top) (va.getD i undef))
      (h':∀ i,i<b.length->Rv μ ι w (b.getD i .top) (vb.getD i undef)):Rv μ ι w (.fn f a b) (.func f va vb)
  | js:Rv μ ι w .js .nilFunc
  | rG {id:Nat}{p:Place}(hp:μ id=some p):Rv μ ι w (.rG id) (.func (.yield p.b) #[] #[])
  | su {t:TypeId}{v:LV}{x:Value}(h:Rv μ ι w v x):Rv μ ι w (.su t v) (.iface t x)
  | lU:Rv μ ι w .lU .nilIface
  | cm:Rv μ ι w .cm (.map none)
  | aR {id:Nat}{p:Place}(hp:μ id=some p):Rv μ ι w (.aR id) (.map (some p.b))
theorem Rv.mono {μ b8:Mu}{ι ck:Io}{w w':World}(j:∀ b o,ι b o->w'.cell? ⟨b,o,none⟩=w.cell? ⟨b,o,none⟩)
 (e:∀ id p,μ id=some p->b8 id=some p) (l:∀ b o,ι b o->ck b o) {v:LV}{x:Value}(h:Rv μ ι w v x):Rv b8 ck w' v x:=by
 induction h with
 | top v=>exact .top v
 | bool b=>exact .bool b
 | int k n=>exact .int k n
 | str s=>exact .str s
 | agg hl _ ih=>exact .agg hl ih
 | cE hl _ ih=>exact .cE hl ih
 | eS=>exact .eS
 | aY vs f d h1 _ ih=>exact .aY vs (λi h=>(j _ _ (d i h)).trans (f i h)) (λi h=>l _ _ (d i h)) h1 ih
 | aO c=>exact .aO (e _ _ c)
 | aq=>exact .aq
 | zs a=>exact .zs a
 | aF vs f d h1 _ g ih=>exact .aF vs (λi h=>(j _ _ (d i h)).trans (f i h)) (λi h=>l _ _ (d i h)) h1 ih g
 | aE c m g q=>exact .aE (e _ _ c) m g q
 | fn hl r _ _ ih t=>exact .fn hl r ih t
 | js=>exact .js
 | rG c=>exact .rG (e _ _ c)
 | su _ ih=>exact .su ih
 | lU=>exact .lU
 | cm=>exact .cm
 | aR c=>exact .aR (e _ _ c)
def Rs (μ:Mu) (ι:Io) (w:World) (cs:List LV) (vs:List Value):Prop:=vs.length=cs.length/\∀ i,i<cs.length->Rv μ ι w (cs.getD i .top) (vs.getD i undef)
def Re (μ:Mu) (ι:Io) (w:World) (e:Env) (tmps:Array Value):Prop:=∀ t,Rv μ ι w (e.at t) (tmps.getD t undef)
def Dx.code:Dx->Code
 | .ret=>.ret
 | .exit id=>.exit id
def CX:LV->Bool
 | .int .. | .str _ | .agg _=>true
 | _=>false
def Rb (cmp:Nat->bx->Code->Prop) (μ:Mu) (ι:Io) (w:World) (p:Place):jU->Prop
 | .cells m cs=>(∃ x,w.shape? p.b=some x)/\cs.length<=p.cap /\
  (∀ i,i<p.cap->∃ v,w.cell? ⟨p.b,p.off+i,none⟩=some v/\v.oneCell'=true/\(i<cs.length->Rv μ ι w (cs.getD i .top) v)) /\
  (∀ o,w.frozen? ⟨p.b,o,none⟩=false) /\
  (m≠.mut->∀ i,i<cs.length->ι p.b (p.off+i)) /\
  (m = .mut->∀ i,i<p.cap->¬ ι p.b (p.off+i)) /\
  (m = .app->∀ i,cs.length<=i->i<p.cap->¬ ι p.b (p.off+i))
 | .map es=>∃ arr,w.heap[p.b]? = some (.map arr es.length)/\arr.size=es.length/\∀ i,i<es.length->((arr.getD i default).born=i/\CX (es.getD i default).1=true/\Rv μ ι w (es.getD i default).1 (arr.getD i default).key/\Rv μ ι w (es.getD i default).2 (arr.getD i default).val)
 | .iter m d seen last=>p.off=0/\∃ a,w.heap[p.b]? = some (.mapIter a d seen.toArray last)/\(match m with | none=>a=none | some id=>∃ pm,μ id=some pm/\a=some pm.b)
 | .loop st e c ps assign body=>∃ L:Loop,w.heap[p.b]? = some (.loop L)/\L.state=st/\L.pending=e.map Dx.code/\Re μ ι w c L.tmps /\
  (∀ i∈ps,i<L.tmps.size)/\L.params=ps.toArray/\cmp L.tmps.size assign L.assign/\cmp L.tmps.size body L.body
def jU.owns:jU->Bool
 | .cells .ro _=>false
 | _=>true
structure Bs where
  w:World
  κ:Io
def Bs.heap (w0:Bs):Array Obj:=w0.w.heap
def jc (w:World) (b:Nat):Prop:=(∃ x,w.shape? b=some x)/\∀ o,w.frozen? ⟨b,o,none⟩=false
structure Inv (cmp:Nat->bx->Code->Prop) (w0:Bs) (μ:Mu) (ι:Io) (δ:Nat->Prop) (s:St) (w:World):Prop where
  below:Below w0.heap.size w0.w w
  oh:∀ id p,μ id=some p->id<s.n/\w0.heap.size<=p.b/\p.b<w.heap.size
  io:∀ b o,ι b o->∃ v,w.cell? ⟨b,o,none⟩=some v
  dR:∀ id b p,s.get id=some b->μ id=some p->Rb cmp μ ι w p b
  sep:∀ id kB b b' p p',s.get id=some b->s.get kB=some b'->b.owns=true->b'.owns=true->μ id=some p->μ kB=some p'->p.b=p'.b->id=kB
  defers:∀ r,δ r->w0.heap.size<=r/\w.heap[r]? = some (.deferred (some []))
  low:∀ b o,ι b o->b<w0.heap.size->w0.κ b o
  own:∀ b o,ι b o->w0.heap.size<=b->jc w b
structure Kept (μ:Mu) (s:St) (b8:Mu) (s':St):Prop where
  n:s.n<=s'.n
  get:∀ id,id<s.n->μ id=none->s'.get id=s.get id
  free:∀ id,id<s.n->μ id=none->b8 id=none
theorem Kept.refl (μ:Mu) (s:St):Kept μ s μ s:=⟨Nat.le_refl _,λ_ _ _=>rfl,λ_ _ h=>h⟩
structure Ext (μ:Mu) (ι:Io) (δ:Nat->Prop) (w:World) (b8:Mu) (ck:Io) (mI:Nat->Prop) (w':World):Prop where
  mu:∀ id p,μ id=some p->b8 id=some p
  io:∀ b o,ι b o->ck b o
  cell:∀ b o,ι b o->w'.cell? ⟨b,o,none⟩=w.cell? ⟨b,o,none⟩
  size:w.heap.size<=w'.heap.size
  de:∀ r,δ r->mI r
theorem Ext.refl (μ:Mu) (ι:Io) (δ:Nat->Prop) (w:World):Ext μ ι δ w μ ι δ w:=⟨λ_ _ h=>h,λ_ _ h=>h,λ_ _ _=>rfl,Nat.le_refl _,λ_ h=>h⟩
theorem Ext.trans {μ b8 a:Mu}{ι ck c:Io}{δ mI d:Nat->Prop}{w w' e:World}(h:Ext μ ι δ w b8 ck mI w') (k:Ext b8 ck mI w' a c d e):Ext μ ι δ w a c d e :=
 ⟨λi p h1=>k.mu i p (h.mu i p h1),λb o h1=>k.io b o (h.io b o h1),λb o h1=>(k.cell b o (h.io b o h1)).trans (h.cell b o h1),Nat.le_trans h.size k.size,λr h1=>k.de r (h.de r h1)⟩
section
variable {cmp:Nat->bx->Code->Prop}{w0:Bs}{μ b8:Mu}{ι ck:Io}{δ mI:Nat->Prop}{w w':World}{s s':St}
theorem Rv.ext (h:Ext μ ι δ w b8 ck mI w') {v:LV}{x:Value}(a:Rv μ ι w v x):Rv b8 ck w' v x:=a.mono h.cell h.mu h.io
theorem Re.ext (h:Ext μ ι δ w b8 ck mI w') {e:Env}{t:Array Value}(a:Re μ ι w e t):Re b8 ck w' e t:=λi=>(a i).ext h
theorem Re.put {e:Env}{a:Act}(h:Re μ ι w e a.tmps) {d:Option Nat}(b:∀ t,d=some t->t<a.tmps.size) {v:LV}{x:Value}(c:Rv μ ι w v x) :
 Re μ ι w (Env.put e d v) (a.put d x).tmps:=by
 cases d with
 | none=>exact h
 | some d=>
   intro t;have f:=b d rfl;simp only[Env.aB,Env.rC,Act.put];by_cases e:t=d
   ·subst e;simp[gF,f,c]
   ·rw[if_neg e];have:=h t;simpa[gF,Array.getElem?_setIfInBounds,Ne.symm e] using this
@[simp] theorem Act.yl (a:Act) (d:Option Nat) (x:Value):(a.put d x).tmps.size=a.tmps.size:=by
  cases d<;>simp[Act.put]
@[simp] theorem Act.mO (a:Act) (d:Option Nat) (x:Value):(a.put d x).defers=a.defers:=by
  cases d<;>simp[Act.put]
end
@[simp] theorem jz (b o n:Nat):(⟨b,o,none⟩:Addr).add n=⟨b,o+n,none⟩:=by
  unfold Addr.add;split
  ·next h=>subst h;rfl
  ·rfl
section
variable {P:Program}{w w':World}{w0:Bs}{μ b8:Mu}{ι ck:Io}{δ mI:Nat->Prop}{s s':St}{cmp:Nat->bx->Code->Prop}
theorem Ee {a:Addr}{v:Value}(h:w.cell? a=some v):(load a).run P w = .ok v w:=by simp[h]
theorem run_loadCellsFrom (b o:Nat):∀ (vs:List Value) (i:Nat) (acc:Array Value),(∀ j,j<vs.length->w.cell? ⟨b,o+(i+j),none⟩=some (vs.getD j undef)) ->
 (loadCellsFrom ⟨b,o,none⟩ i vs.length acc).run P w = .ok (acc++vs.toArray) w:=by
 intro vs;induction vs with
 | nil=>intro i acc _;simp[loadCellsFrom]
 | cons v vs ih=>
   intro i acc h;have h0:=h 0 (by simp);simp only[Nat.add_zero,List.getD_cons_zero]at h0;simp only[List.length_cons,loadCellsFrom,Sem.run_bind,jz,Ee h0,Result.andThen_ok];rw[ih (i+1) (acc.push v) (λj a=>by have:=h (j+1) (by simpa using a);simp only[List.getD_cons_succ]at this;rw[<- this];congr 2;omega)];simp
theorem run_loadCells (b o:Nat) (vs:List Value) (h:∀ j,j<vs.length->w.cell? ⟨b,o+j,none⟩=some (vs.getD j undef)) :
 (loadCells ⟨b,o,none⟩ vs.length).run P w = .ok vs.toArray w:=by
 have:=run_loadCellsFrom (P:=P) (w:=w) b o vs 0 #[] (λj a=>by rw[Nat.zero_add];exact h j a);simpa[loadCells] using this
structure uZ (b o:Nat) (vs:List Value) (w w':World):Prop where
  os:w'.os=w.os
  tape:w'.tape=w.tape
  output:w'.output=w.output
  size:w'.heap.size=w.heap.size
  block:∀ k,k≠b->w'.heap[k]? = w.heap[k]?
  BT:∀ i,i<vs.length->w'.cell? ⟨b,o+i,none⟩=some (vs.getD i undef)
  yD:∀ c:Addr,(c.block≠b∨c.off<o∨o+vs.length<=c.off)->w'.cell? c=w.cell? c
  frozen:∀ c,w'.frozen? c=w.frozen? c
  shape:∀ k,w'.shape? k=w.shape? k
theorem x5 (a:Addr) (v:Value) (k:Nat):(w.setCell a v).shape? k=w.shape? k:=by
 simp only[World.setCell,World.shape?,Array.getElem?_modify];by_cases h:a.block=k
 ·subst h;cases b:w.heap[a.block]? with
  | none=>simp
  | some x=>
    cases x<;>simp;split<;>simp
 ·simp[h]
theorem heap_setCell_other (a:Addr) (v:Value) (k:Nat) (h:k≠a.block):(w.setCell a v).heap[k]? = w.heap[k]? := Below.heap_setCell w a v k h
theorem gi (b o:Nat):∀ (vs:List Value) (i:Nat) (w:World),(∀ v∈vs,v.oneCell'=true) ->
 (∀ j,j<vs.length->∃ v,w.cell? ⟨b,o+(i+j),none⟩=some v)->(∀ j,j<vs.length->w.frozen? ⟨b,o+(i+j),none⟩=false) ->
 ∃ w',(storeCells ⟨b,o,none⟩ vs i).run P w = .ok () w'/\uZ b (o+i) vs w w':=by
 intro vs;induction vs with
 | nil=>
   intro i w _ _ _;exact⟨w,rfl,rfl,rfl,rfl,rfl,λ_ _=>rfl,λi h=>by simp at h,λ_ _=>rfl,λ_=>rfl,λ_=>rfl⟩
 | cons v vs ih=>
   intro i w h1 g l;obtain⟨u,a⟩:=g 0 (by simp);have d:=l 0 (by simp);simp only[Nat.add_zero]at a d;have p:(store ⟨b,o+i,none⟩ v).run P w = .ok () (w.setCell ⟨b,o+i,none⟩ v):=by
    rw[run_store P w _ v .plain (h1 v (by simp))];simp[a,d]
   obtain⟨w',q,W⟩:=ih (i+1) (w.setCell ⟨b,o+i,none⟩ v) (λv h=>h1 v (by simp[h]))
    (λj f=>by
     obtain⟨u,a⟩:=g (j+1) (by simpa using f);refine⟨u,?_⟩;rw[World.cell?_setCell_other]
     ·rw[<- a];congr 2;omega
     ·intro e;simp only[Addr.mk.injEq]at e;omega)
    (λj f=>by
     rw[World.frozen?_setCell,<- l (j+1) (by simpa using f)];congr 2;omega)
   refine⟨w',by simp only[storeCells,Sem.run_bind,jz,p,Result.andThen_ok,q],W.os.trans rfl,W.tape.trans rfl,W.output.trans rfl,by rw[W.size];simp,
    λk m=>(W.block k m).trans (heap_setCell_other _ _ _ (by simpa using m)),?_,?_,λc=>by rw[W.frozen,World.frozen?_setCell],λk=>by rw[W.shape,x5]⟩
   ·intro j f;cases j with
    | zero=>
      rw[W.yD _ (.inr (.inl (by simp)))];simpa using World.cell?_setCell_same w _ v a
    | succ j=>
      have:=W.BT j (by simpa using f);rw[List.getD_cons_succ,<- this];congr 2;omega
   ·intro c n;rw[W.yD c (by simp only[List.length_cons]at n;omega)];apply World.cell?_setCell_other;rintro rfl;simp at n;omega
theorem Below.wrote {B:Nat}{w0 w w':World}{b o:Nat}{vs:List Value}(h:Below B w0 w) (W:uZ b o vs w w') (a:B<=b):Below B w0 w' :=
 h.trans ⟨W.os,W.tape,W.output,Nat.le_of_eq W.size.symm,λk c=>W.block k om⟩
theorem uU {b o:Nat}{v:Value}(h:w.cell? ⟨b,o,none⟩=some v):b<w.heap.size:=World.block_lt_of_cell? w ⟨b,o,none⟩ h
theorem gS {b o:Nat}(h:w'.heap[b]? = w.heap[b]?):w'.cell? ⟨b,o,none⟩=w.cell? ⟨b,o,none⟩:=World.cell?_of_block (w:=w) h
theorem mq {b o:Nat}(h:w'.heap[b]? = w.heap[b]?):w'.frozen? ⟨b,o,none⟩=w.frozen? ⟨b,o,none⟩:=World.frozen?_of_block (w:=w) h
structure cZ (w w':World):Prop where
  os:w'.os=w.os
  tape:w'.tape=w.tape
  output:w'.output=w.output
  size:w.heap.size<=w'.heap.size
  block:∀ k,k<w.heap.size->w'.heap[k]? = w.heap[k]?
theorem cZ.refl (w:World):cZ w w:=⟨rfl,rfl,rfl,Nat.le_refl _,λ_ _=>rfl⟩
theorem cZ.trans {w w' a:World}(h:cZ w w') (k:cZ w' a):cZ w a :=
 ⟨k.os.trans h.os,k.tape.trans h.tape,k.output.trans h.output,Nat.le_trans h.size k.size,λi b=>(k.block i (Nat.lt_of_lt_of_le b h.size)).trans (h.block i b)⟩
theorem cZ.drew (w:World):cZ w { w with drawn:=w.drawn+1 } := ⟨rfl,rfl,rfl,Nat.le_refl _,λ_ _=>rfl⟩
theorem cZ.alloc (w:World) (o:Obj):cZ w { w with heap:=w.heap.push o } :=
 ⟨rfl,rfl,rfl,by simp,λk a=>Below.heap_alloc w o k a⟩
theorem cZ.Pz {w w':World}(h:Below w.heap.size w w'):cZ w w':=⟨h.os,h.tape,h.output,h.size,h.block⟩
theorem cZ.below {B:Nat}{w0:World}(h:cZ w w') (a:Below B w0 w) (hB:B<=w.heap.size):Below B w0 w' :=
 a.trans ⟨h.os,h.tape,h.output,h.size,λk b=>h.block k om⟩
theorem cZ.cell (h:cZ w w') {b o:Nat}{v:Value}(a:w.cell? ⟨b,o,none⟩=some v):w'.cell? ⟨b,o,none⟩=some v:=by
 rw[gS (h.block b (uU a)),a]
theorem Inv.hB (I:Inv cmp w0 μ ι δ s w):w0.heap.size<=w.heap.size:=I.below.size
theorem Inv.vK (I:Inv cmp w0 μ ι δ s w) (h:cZ w w'):∀ b o,ι b o->w'.cell? ⟨b,o,none⟩=w.cell? ⟨b,o,none⟩:=λb o c=>by
 obtain⟨v,a⟩:=I.io b o c;rw[a,h.cell a]
theorem Inv.fk (I:Inv cmp w0 μ ι δ s w) (h:cZ w w'):Ext μ ι δ w μ ι δ w' :=
 ⟨λ_ _ h=>h,λ_ _ h=>h,I.vK h,h.size,λ_ h=>h⟩
theorem jc.heap {b:Nat}(a:jc w b) (h:w'.heap[b]? = w.heap[b]?):jc w' b:=by
 obtain⟨⟨x,h0⟩,h1⟩:=a;exact⟨⟨x,by unfold World.shape? at *;rw[h];exact h0⟩,λo=>by rw[mq h];exact h1 o⟩
theorem jc.wrote {b b' o:Nat}{vs:List Value}(a:jc w b) (W:uZ b' o vs w w'):jc w' b:=by
 obtain⟨⟨x,h0⟩,h1⟩:=a;exact⟨⟨x,by rw[W.shape];exact h0⟩,λo=>by rw[W.frozen];exact h1 o⟩
theorem Rb.same (I:Inv cmp w0 μ ι δ s w) (h:cZ w w') {p:Place}(c:p.b<w.heap.size) {b:jU}(e:Rb cmp μ ι w p b):Rb cmp μ ι w' p b:=by
 have f:=I.vK h;cases b with
 | cells m cs=>
   obtain⟨⟨x,h0⟩,h1,h2,h3,d,k,h6⟩:=e;refine⟨⟨x,by unfold World.shape? at *;rw[h.block p.b c];exact h0⟩,h1,λi a=>?_,λi=>by rw[mq (h.block p.b c)];exact h3 i,d,k,h6⟩;obtain⟨v,l,ho,n⟩:=h2 i a;exact⟨v,h.cell l,ho,λhl=>(n hl).mono f (λ_ _ h=>h) (λ_ _ h=>h)⟩
 | loop st u o ps as y=>
   obtain⟨L,q,h1,h2,h3,d⟩:=e;exact⟨L,(h.block p.b c).trans q,h1,h2,λt=>(h3 t).mono f (λ_ _ h=>h) (λ_ _ h=>h),d⟩
 | map z=>
   obtain⟨g,h1,h2,h3⟩:=e;exact⟨g,(h.block p.b c).trans h1,h2,λi a=>⟨(h3 i a).1,(h3 i a).2.1,(h3 i a).2.2.1.mono f (λ_ _ h=>h) (λ_ _ h=>h),(h3 i a).2.2.2.mono f (λ_ _ h=>h) (λ_ _ h=>h)⟩⟩
 | iter m A seen j=>
   obtain⟨h0,r,h1,h2⟩:=e;refine⟨h0,r,(h.block p.b c).trans h1,?_⟩;cases m with
   | none=>exact h2
   | some id=>obtain⟨pm,h3,d⟩:=h2;exact⟨pm,h3,d⟩
theorem Inv.same (I:Inv cmp w0 μ ι δ s w) (h:cZ w w'):Inv cmp w0 μ ι δ s w' where
 below:=h.below I.below I.hB
 oh:=λid p hp=>let ⟨a,b,c⟩:=I.oh id p hp;⟨a,b,Nat.lt_of_lt_of_le c h.size⟩
 io:=λb o hi=>let ⟨v,hv⟩:=I.io b o hi;⟨v,h.cell hv⟩
 dR:=λid b p hb hp=>(I.dR id b p hb hp).same I h (I.oh id p hp).2.2
 sep:=I.sep
 defers:=λr hr=>let ⟨a,b⟩:=I.defers r hr;⟨a,by rw[h.block r (by have:=Array.getElem?_eq_some_iff.1 b;exact this.1)];exact b⟩
 low:=I.low
 own:=λb o hi hb=>(I.own b o hi hb).heap (h.block b (by obtain⟨v,hv⟩:=I.io b o hi;exact uU hv))
theorem Rb.mono {p:Place}{b:jU}(d:∀ id p,μ id=some p->b8 id=some p) (e:∀ b o,ι b o->ck b o) (g:∀ b o,ι b o->w'.cell? ⟨b,o,none⟩=w.cell? ⟨b,o,none⟩)
 (c:w'.heap[p.b]? = w.heap[p.b]?) (k:b.owns=true->∀ i,ck p.b i->ι p.b i) (h:Rb cmp μ ι w p b):Rb cmp b8 ck w' p b:=by
 cases b with
 | cells m cs=>
   obtain⟨⟨x,h0⟩,h1,h2,h3,f,n,h6⟩:=h;refine⟨⟨x,by unfold World.shape? at *;rw[c];exact h0⟩,h1,λi a=>?_,λi=>by rw[mq c];exact h3 i,λhm i a=>e _ _ (f hm i a),?_,?_⟩
   ·obtain⟨v,q,ho,r⟩:=h2 i a;exact⟨v,by rw[gS c];exact q,ho,λhl=>(r hl).mono g d e⟩
   ·intro hm i a hx;subst hm;exact n rfl i a (k rfl _ hx)
   ·intro hm i hl a hx;subst hm;exact h6 rfl i hl a (k rfl _ hx)
 | loop st A u ps as B=>
   obtain⟨L,y,h1,h2,h3,f⟩:=h;exact⟨L,c.trans y,h1,h2,λt=>(h3 t).mono g d e,f⟩
 | map C=>
   obtain⟨j,h1,h2,h3⟩:=h;exact⟨j,c.trans h1,h2,λi a=>⟨(h3 i a).1,(h3 i a).2.1,(h3 i a).2.2.1.mono g d e,(h3 i a).2.2.2.mono g d e⟩⟩
 | iter m D seen l=>
   obtain⟨h0,z,h1,h2⟩:=h;refine⟨h0,z,c.trans h1,?_⟩;cases m with
   | none=>exact h2
   | some id=>obtain⟨pm,h3,f⟩:=h2;exact⟨pm,d _ _ h3,f⟩
end
section
variable {P:Program}{w w':World}{w0:Bs}{μ b8:Mu}{ι ck:Io}{δ mI:Nat->Prop}{s s':St}{cmp:Nat->bx->Code->Prop}
def Mu.nB (μ:Mu) (n:Nat) (p:Place):Mu:=λid=>if id=n then some p else μ id
theorem Inv.mu_n (I:Inv cmp w0 μ ι δ s w):μ s.n=none:=by
 cases h:μ s.n with
 | none=>rfl
 | some p=>exact absurd (I.oh _ _ h).1 (Nat.lt_irrefl _)
theorem Inv.XM (I:Inv cmp w0 μ ι δ s w) (p:Place):∀ id q,μ id=some q->(μ.nB s.n p) id=some q:=λid q h=>by
 unfold Mu.nB;rw[if_neg (λe=>by have:=(I.oh id q h).1;omega)];exact h
theorem Inv.rD (I:Inv cmp w0 μ ι δ s w) (p:Place) (b:jU) (h1:w0.heap.size<=p.b) (h2:p.b<w.heap.size) (u:Rb cmp μ ι w p b)
 (ho:b.owns=true->∀ id b' r,s.get id=some b'->b'.owns=true->μ id=some r->r.b≠p.b) :
 Inv cmp w0 (μ.nB s.n p) ι δ (s.new b) w/\Ext μ ι δ w (μ.nB s.n p) ι δ w:=by
 have f:=I.XM p;have g:∀ {q:Place}{b:jU},Rb cmp μ ι w q b->Rb cmp (μ.nB s.n p) ι w q b:=λh=>h.mono f (λ_ _ h=>h) (λ_ _ _=>rfl) rfl (λ_ _ h=>h);refine⟨⟨I.below,?_,I.io,?_,?_,I.defers,I.low,I.own⟩,⟨f,λ_ _ h=>h,λ_ _ _=>rfl,Nat.le_refl _,λ_ h=>h⟩⟩
 ·intro id q a;unfold Mu.nB at a;split at a
  ·rename_i e;cases a;subst e;exact⟨by simp,h1,h2⟩
  ·have:=I.oh id q a;exact⟨by simp;omega,this.2⟩
 ·intro id b' q i a;rw[St.aA]at i;unfold Mu.nB at a;split at i
  ·rename_i e;cases i;rw[if_pos e]at a;cases a;exact g u
  ·rename_i e;rw[if_neg e]at a;exact g (I.dR id b' q i a)
 ·intro id j t b2 p1 p2 g1 g2 k l c d e;rw[St.aA]at g1 g2;unfold Mu.nB at c d;by_cases m:id=s.n<;>by_cases o:j=s.n
  ·omega
  ·rw[if_pos m]at g1 c;rw[if_neg o]at g2 d;cases g1;cases c;exact absurd e.symm (ho k j b2 p2 g2 l d)
  ·rw[if_neg m]at g1 c;rw[if_pos o]at g2 d;cases g2;cases d;exact absurd e (ho l id t p1 g1 k c)
  ·rw[if_neg m]at g1 c;rw[if_neg o]at g2 d;exact I.sep id j t b2 p1 p2 g1 g2 k l c d e
theorem Inv.Wu (I:Inv cmp w0 μ ι δ s w) (T:TypeId) (arr:Array Value) (cs:List LV) (hl:cs.length<=arr.size) (ho:∀ i,i<arr.size->(arr.getD i undef).oneCell'=true) (h:∀ i,i<cs.length->Rv μ ι w (cs.getD i .top) (arr.getD i undef)) :
 let w':World:={ w with heap:=w.heap.push (.cells arr T) };let p:Place:=⟨w.heap.size,0,arr.size⟩;Inv cmp w0 μ ι δ s w'/\Ext μ ι δ w μ ι δ w'/\Rb cmp μ ι w' p (.cells .mut cs)/\p.b<w'.heap.size/\(∀ id a,μ id=some a->a.b≠p.b):=by
 intro w' p;have hs:cZ w w':=cZ.alloc w _;have d:=I.same hs;have hx:=I.fk hs;have f:w'.heap.size=w.heap.size+1:=by simp[w']
 have g:∀ i,w'.cell? ⟨w.heap.size,i,none⟩=arr[i]? := λi=>World.cell?_alloc_new w arr T i;have j:Rb cmp μ ι w' p (.cells .mut cs):=by
  refine⟨⟨(T,arr.size),by simp[World.shape?,w',p]⟩,hl,λi c=>⟨arr.getD i undef,?_,ho i c,λk=>(h i k).ext hx⟩,λi=>?_,λhm=>absurd rfl hm,λ_ i _ hx=>?_,λhm=>by cases hm⟩
  ·show w'.cell? ⟨w.heap.size,0+i,none⟩=_;have l:i<arr.size:=c;rw[Nat.zero_add,g];simp[gF,l]
  ·show w'.frozen? ⟨w.heap.size,i,none⟩=false;exact World.frozen?_alloc_new w arr T i
  ·obtain⟨v,m⟩:=I.io _ _ hx;have:=uU m;exact absurd this (Nat.lt_irrefl _)
 refine⟨d,hx,j,by rw[f];exact Nat.lt_succ_self _,λid a hm e=>?_⟩;have:=(I.oh id a hm).2.2;have n:a.b=w.heap.size:=e;omega
theorem Inv.nL (I:Inv cmp w0 μ ι δ s w) (T:TypeId) (arr:Array Value) (cs:List LV) (hl:cs.length<=arr.size) (ho:∀ i,i<arr.size->(arr.getD i undef).oneCell'=true) (h:∀ i,i<cs.length->Rv μ ι w (cs.getD i .top) (arr.getD i undef)) :
 let w':World:={ w with heap:=w.heap.push (.cells arr T) };let p:Place:=⟨w.heap.size,0,arr.size⟩;Inv cmp w0 (μ.nB s.n p) ι δ (s.new (.cells .mut cs)) w'/\Ext μ ι δ w (μ.nB s.n p) ι δ w':=by
 intro w' p;obtain⟨a,hx,b,c,dB⟩:=I.Wu T arr cs hl ho h;obtain⟨d,f⟩:=a.rD p (.cells .mut cs) I.hB c b (λ_ id j g _ _ hm e=>dB id g hm e);exact⟨d,hx.trans f⟩
theorem Inv.Yg (I:Inv cmp w0 μ ι δ s w) (T:TypeId) (arr:Array Value) :
 let w':World:={ w with heap:=w.heap.push (.cells arr T) };let ck:Io:=λb o=>ι b o∨(b=w.heap.size/\o<arr.size);Inv cmp w0 μ ck δ s w'/\Ext μ ι δ w μ ck δ w'/\(∀ i,w'.cell? ⟨w.heap.size,i,none⟩=arr[i]?):=by
 intro w' ck;have hs:cZ w w':=cZ.alloc w _;have a:=I.same hs;have hx:=I.fk hs;have f:∀ i,w'.cell? ⟨w.heap.size,i,none⟩=arr[i]? := λi=>World.cell?_alloc_new w arr T i;refine⟨⟨a.below,a.oh,?_,?_,a.sep,a.defers,λb o h c=>h.elim (λh=>I.low b o h c) (λh=>absurd I.hB om),λb o h c=>h.elim (λh=>a.own b o h c) (λh=>by obtain⟨rfl,_⟩:=h;exact⟨⟨(T,arr.size),by simp[World.shape?,w']⟩,λo=>World.frozen?_alloc_new w arr T o⟩)⟩,⟨λ_ _ h=>h,λ_ _ h=>.inl h,hx.cell,hx.size,λ_ h=>h⟩,f⟩
 ·rintro b o (h | ⟨rfl,h⟩)
  ·exact a.io b o h
  ·exact⟨arr[o],by rw[f];simp[h]⟩
 ·intro id b p c g;refine (a.dR id b p c g).mono (λ_ _ h=>h) (λ_ _ h=>.inl h) (λ_ _ _=>rfl) rfl (λ_ i d=>?_);rcases d with d | ⟨e,_⟩
  ·exact d
  ·have:=(I.oh id p g).2.2;omega
theorem D9 (new:List LV):∀ (cs:List LV) (off i:Nat),off+new.length<=cs.length->(splice cs off new).getD i .top=if off<=i/\i<off+new.length then new.getD (i - off) .top else cs.getD i .top:=by
 induction new with
 | nil=>intro cs off i _;rw[if_neg (by simp only[List.length_nil];omega)];rfl
 | cons a new ih=>
   intro cs off i h;simp only[List.length_cons]at h;rw[splice,ih _ _ _ (by simp;omega)];by_cases b:i=off
   ·subst b;rw[if_neg om,if_pos (by simp)];simp[gD,show i<cs.length from by omega]
   ·by_cases c:off<=i/\i<off+(new.length+1)
    ·rw[if_pos om,if_pos (by simp;omega),show i - off=(i - (off+1))+1 from by omega,List.getD_cons_succ]
    ·rw[if_neg om,if_neg (by simp;omega)];simp[gD,Ne.symm b]
theorem Rb.wrote {b o:Nat}{vs:List Value}(W:uZ b o vs w w') (ho:∀ i,i<vs.length->(vs.getD i undef).oneCell'=true) {p:Place}{d:jU}(c:Rb cmp μ ι w p d)
 (a:∀ b o,ι b o->w'.cell? ⟨b,o,none⟩=w.cell? ⟨b,o,none⟩) (h:d.owns=true->p.b≠b):Rb cmp μ ι w' p d:=by
 cases d with
 | cells m cs=>
   by_cases e:p.b=b
   ·have hm:m = .ro:=by
     cases m<;>first | rfl | exact absurd e (h rfl)
    subst hm;obtain⟨⟨x,h0⟩,h1,h2,h3,g,u,h6⟩:=c;refine⟨⟨x,by rw[W.shape];exact h0⟩,h1,λi n=>?_,λi=>by rw[W.frozen];exact h3 i,g,(λhm=>by cases hm),(λhm=>by cases hm)⟩;obtain⟨v,j,k,q⟩:=h2 i n;by_cases f:i<cs.length
    ·have r:=g (by simp) i f;exact⟨v,(a _ _ r).trans j,k,λhl=>(q hl).mono a (λ_ _ h=>h) (λ_ _ h=>h)⟩
    ·by_cases BT:o<=p.off+i/\p.off+i<o+vs.length
     ·have:=W.BT (p.off+i - o) om;rw[show o+(p.off+i - o)=p.off+i from by omega,<- e]at this;exact⟨_,this,ho _ om,λhl=>absurd hl f⟩
     ·exact⟨v,(W.yD _ (by simp only;omega)).trans j,k,λhl=>absurd hl f⟩
   ·exact c.mono (λ_ _ h=>h) (λ_ _ h=>h) a (W.block _ e) (λ_ _ h=>h)
 | loop st y t ps as z=>
   exact c.mono (λ_ _ h=>h) (λ_ _ h=>h) a (W.block _ (h rfl)) (λ_ _ h=>h)
 | map A=>
   exact c.mono (λ_ _ h=>h) (λ_ _ h=>h) a (W.block _ (h rfl)) (λ_ _ h=>h)
 | iter m B seen l=>
   exact c.mono (λ_ _ h=>h) (λ_ _ h=>h) a (W.block _ (h rfl)) (λ_ _ h=>h)
theorem xW {b o:Nat}{vs:List Value}(W:uZ b o vs w w') (c:∀ i,i<vs.length->¬ ι b (o+i)):∀ b' a,ι b' a->w'.cell? ⟨b',a,none⟩=w.cell? ⟨b',a,none⟩:=by
 intro b' a d;refine W.yD _ ?_;by_cases e:b'=b
 ·subst e;right;by_cases h1:a<o
  ·exact .inl h1
  ·by_cases h2:o+vs.length<=a
   ·exact .inr h2
   ·exact absurd d (by have:=c (a - o) (by omega);rwa[show o+(a - o)=a from by omega]at this)
 ·exact .inl e
theorem Inv.write (I:Inv cmp w0 μ ι δ s w) {id:Nat}{cs:List LV}{p:Place}{off:Nat}(t:s.get id=some (.cells .mut cs)) (m:μ id=some p)
 (new:List LV) (vs:List Value) (hl:vs.length=new.length) (D:off+new.length<=cs.length) (E:∀ i,i<new.length->Rv μ ι w (new.getD i .top) (vs.getD i undef))
 (z:∀ i,i<vs.length->(vs.getD i undef).oneCell'=true) (W:uZ p.b (p.off+off) vs w w') :
 Inv cmp w0 μ ι δ (s.put id (.cells .mut (splice cs off new))) w'/\Ext μ ι δ w μ ι δ w':=by
 have u:=I.dR id _ p t m;obtain⟨⟨x,h0⟩,h1,h2,h3,U,A,h6⟩:=u;have F:=I.oh id p m;have G:∀ i,i<vs.length->¬ ι p.b (p.off+off+i):=λi c=>by
  have:=A rfl (off+i) om;rwa[<- Nat.add_assoc]at this
 have n:=xW W G;have B:∀ {v x},Rv μ ι w v x->Rv μ ι w' v x:=λh=>h.mono n (λ_ _ h=>h) (λ_ _ h=>h);refine⟨⟨Below.wrote I.below W F.2.1,λi q d=>by have:=I.oh i q d;rw[W.size];exact this,?_,?_,?_,?_,I.low,λb o c u=>(I.own b o c u).wrote W⟩,
  ⟨λ_ _ h=>h,λ_ _ h=>h,n,Nat.le_of_eq W.size.symm,λ_ h=>h⟩⟩
 ·intro b o c;obtain⟨v,y⟩:=I.io b o c;exact⟨v,(n b o c).trans y⟩
 ·intro C g q l d;rw[St.az]at l;split at l
  ·rename_i e;subst e;cases l;obtain rfl:p=q:=Option.some.inj (m.symm.trans d);refine⟨⟨x,by rw[W.shape];exact h0⟩,by rw[mX];exact h1,λi c=>?_,λi=>by rw[W.frozen];exact h3 i,λhm=>absurd rfl hm,A,λhm=>by cases hm⟩;obtain⟨v,y,H,J⟩:=h2 i c;rw[mX,D9 new cs off i D];by_cases BT:off<=i/\i<off+new.length
   ·have:=W.BT (i - off) om;rw[show p.off+off+(i - off)=p.off+i from by omega]at this;refine⟨_,this,z _ om,λ_=>?_⟩;rw[if_pos BT];exact B (E (i - off) om)
   ·refine⟨v,(W.yD _ (by simp only;omega)).trans y,H,λK=>?_⟩;rw[if_neg BT];exact B (J K)
  ·rename_i e;exact (I.dR C g q l d).wrote W z n (λho L=>e (I.sep C id g _ q p l t ho rfl d m L))
 ·intro i j V b2 p1 p2 g1 g2 M N O Q e;rw[St.az]at g1 g2;have f:∀ {k:Nat}{b:jU},(if k=id then some (jU.cells .mut (splice cs off new)) else s.get k)=some b->b.owns=true->∃ g,s.get k=some g/\g.owns=true:=by
   intro k b h ho;split at h
   ·rename_i e;subst e;exact⟨_,t,rfl⟩
   ·exact⟨b,h,ho⟩
  obtain⟨c1,R,l1⟩:=f g1 M;obtain⟨c2,S,l2⟩:=f g2 N;exact I.sep i j c1 c2 p1 p2 R S l1 l2 O Q e
 ·intro r T;obtain⟨a,b⟩:=I.defers r T;refine⟨a,?_⟩;rw[W.block r ?_]
  ·exact b
  ·rintro rfl;simp[World.shape?,b]at h0
theorem Inv.congr (I:Inv cmp w0 μ ι δ s w) (a:s'.n=s.n) (h:∀ j,s'.get j=s.get j):Inv cmp w0 μ ι δ s' w:=
 ⟨I.below,λid p c=>by rw[a];exact I.oh id p c,I.io,λid b p d=>I.dR id b p (by rw[<- h];exact d),
  λi j e b2 p1 p2 g1 g2=>I.sep i j e b2 p1 p2 (by rw[<- h];exact g1) (by rw[<- h];exact g2),I.defers,I.low,I.own⟩
theorem Inv.place (I:Inv cmp w0 μ ι δ s w) (id:Nat) (x:id<s.n) (y:μ id=none) (p:Place) (b:jU) (m:s.get id=some b) (h1:w0.heap.size<=p.b) (h2:p.b<w.heap.size)
 (z:Rb cmp μ ι w p b) (ho:b.owns=true->∀ j b' u,s.get j=some b'->b'.owns=true->μ j=some u->u.b≠p.b) :
 Inv cmp w0 (μ.nB id p) ι δ s w/\Ext μ ι δ w (μ.nB id p) ι δ w:=by
 have f:∀ j q,μ j=some q->(μ.nB id p) j=some q:=λj q h=>by
  unfold Mu.nB;rw[if_neg (λe=>by rw[e,y]at h;cases h)];exact h
 have g:∀ {q:Place}{b:jU},Rb cmp μ ι w q b->Rb cmp (μ.nB id p) ι w q b:=λh=>h.mono f (λ_ _ h=>h) (λ_ _ _=>rfl) rfl (λ_ _ h=>h);refine⟨⟨I.below,?_,I.io,?_,?_,I.defers,I.low,I.own⟩,⟨f,λ_ _ h=>h,λ_ _ _=>rfl,Nat.le_refl _,λ_ h=>h⟩⟩
 ·intro j q a;unfold Mu.nB at a;split at a
  ·rename_i e;cases a;subst e;exact⟨x,h1,h2⟩
  ·exact I.oh j q a
 ·intro j b' q o a;unfold Mu.nB at a;split at a
  ·rename_i e;cases a;subst e;rw[m]at o;cases o;exact g z
  ·exact g (I.dR j b' q o a)
 ·intro i j v b2 p1 p2 g1 g2 r t c d e;unfold Mu.nB at c d;by_cases k:i=id<;>by_cases l:j=id
  ·omega
  ·rw[if_pos k]at c;rw[if_neg l]at d;cases c;subst k;rw[m]at g1;cases g1;exact absurd e.symm (ho r j b2 p2 g2 t d)
  ·rw[if_neg k]at c;rw[if_pos l]at d;cases d;subst l;rw[m]at g2;cases g2;exact absurd e (ho t i v p1 g1 r c)
  ·rw[if_neg k]at c;rw[if_neg l]at d;exact I.sep i j v b2 p1 p2 g1 g2 r t c d e
theorem Inv.TY (I:Inv cmp w0 μ ι δ s w) (b:jU):Inv cmp w0 μ ι δ (s.new b) w:=by
 have dB:∀ {id:Nat}{p:Place},μ id=some p->id≠s.n:=λh e=>by have:=(I.oh _ _ h).1;omega
 refine⟨I.below,λid p a=>⟨by have:=(I.oh id p a).1;simp;omega,(I.oh id p a).2⟩,I.io,?_,?_,I.defers,I.low,I.own⟩
 ·intro id g p c a;rw[St.aA,if_neg (dB a)]at c;exact I.dR id g p c a
 ·intro i j k b2 p1 p2 g1 g2 l m d f e;rw[St.aA,if_neg (dB d)]at g1;rw[St.aA,if_neg (dB f)]at g2;exact I.sep i j k b2 p1 p2 g1 g2 l m d f e
theorem Inv.addIo (I:Inv cmp w0 μ ι δ s w) (C:Io) (f:∀ b o,C b o->w0.heap.size<=b) (g:∀ b o,C b o->jc w b) (d:∀ b o,C b o->∃ v,w.cell? ⟨b,o,none⟩=some v)
 (j:∀ id b p,s.get id=some b->b.owns=true->μ id=some p->∀ o,¬ C p.b o) :
 Inv cmp w0 μ (λb o=>ι b o∨C b o) δ s w/\Ext μ ι δ w μ (λb o=>ι b o∨C b o) δ w:=by
 refine⟨⟨I.below,I.oh,?_,?_,I.sep,I.defers,λb o h a=>h.elim (λh=>I.low b o h a) (λh=>absurd (f b o h) om),λb o h a=>h.elim (λh=>I.own b o h a) (λh=>g b o h)⟩,⟨λ_ _ h=>h,λ_ _ h=>.inl h,λ_ _ _=>rfl,Nat.le_refl _,λ_ h=>h⟩⟩
 ·rintro b o (h | h)
  ·exact I.io b o h
  ·exact d b o h
 ·intro id b p a e;refine (I.dR id b p a e).mono (λ_ _ h=>h) (λ_ _ h=>.inl h) (λ_ _ _=>rfl) rfl (λho i c=>?_);rcases c with c | c
  ·exact c
  ·exact absurd c (j id b p a ho e i)
theorem Inv.Hz (I:Inv cmp w0 μ ι δ s w) {id:Nat}{m m':Md}{cs cs':List LV}{p:Place}(D:s.get id=some (.cells m cs)) (r:μ id=some p) (hl:cs'.length=cs.length)
 (hm:m'=m∨(m = .mut/\m' = .app)) (J:∀ i x,i<cs.length->w.cell? ⟨p.b,p.off+i,none⟩=some x->Rv μ ι w (cs'.getD i .top) x) :
 ∃ ck,Inv cmp w0 μ ck δ (s.put id (.cells m' cs')) w/\Ext μ ι δ w μ ck δ w/\(m'≠.mut->∀ i,i<cs.length->ck p.b (p.off+i)):=by
 have t:=I.dR id _ p D r;obtain⟨⟨x,h0⟩,h1,h2,h3,K,L,h6⟩:=t;have g:∀ (c:jU),c.owns=true->(m≠.ro)->∀ i j u b2 p1 p2,(s.put id c).get i=some u->(s.put id c).get j=some b2->u.owns=true->b2.owns=true->μ i=some p1->μ j=some p2->p1.b=p2.b->i=j:=by
  intro c _ y i j u b2 p1 p2 g1 g2 z A E F e;rw[St.az]at g1 g2;have f:∀ {k:Nat}{b:jU},(if k=id then some c else s.get k)=some b->b.owns=true->∃ c,s.get k=some c/\c.owns=true:=by
   intro k b h ho;split at h
   ·rename_i e;subst e;exact⟨_,D,by cases m<;>first | rfl | exact absurd rfl y⟩
   ·exact⟨b,h,ho⟩
  obtain⟨c1,M,l1⟩:=f g1 z;obtain⟨c2,N,l2⟩:=f g2 A;exact I.sep i j c1 c2 p1 p2 M N l1 l2 E F e
 rcases hm with rfl | ⟨rfl,rfl⟩
 · -- 
  refine⟨ι,⟨I.below,I.oh,I.io,?_,?_,I.defers,I.low,I.own⟩,Ext.refl _ _ _ _,K⟩
  ·intro B c q d n;rw[St.az]at d;split at d
   ·rename_i e;subst e;cases d;obtain rfl:p=q:=Option.some.inj (r.symm.trans n);refine⟨⟨x,h0⟩,by rw[hl];exact h1,λi a=>?_,h3,by rw[hl];exact K,L,by rw[hl];exact h6⟩;obtain⟨v,l,G,_⟩:=h2 i a;exact⟨v,l,G,λH=>J i v (by rw[<- hl];exact H) l⟩
   ·exact I.dR B c q d n
  ·by_cases y:m' = .ro
   ·subst y;intro i j u b2 p1 p2 g1 g2 z A E F e;rw[St.az]at g1 g2;split at g1
    ·cases g1;cases z
    ·split at g2
     ·cases g2;cases A
     ·exact I.sep i j u b2 p1 p2 g1 g2 z A E F e
   ·exact g (.cells m' cs') (by cases m'<;>first | rfl | exact absurd rfl y) y
 · -- 
  let C:Io:=λb o=>b=p.b/\∃ i,i<cs.length/\o=p.off+i;refine⟨λb o=>ι b o∨C b o,⟨I.below,I.oh,?_,?_,g (.cells .app cs') rfl (by simp),I.defers,λb o h t=>h.elim (λh=>I.low b o h t) (λh=>absurd (I.oh _ _ r).2.1 (by have:=h.1;omega)),λb o h t=>h.elim (λh=>I.own b o h t) (λh=>by obtain⟨rfl,_⟩:=h;exact⟨⟨x,h0⟩,h3⟩)⟩,⟨λ_ _ h=>h,λ_ _ h=>.inl h,λ_ _ _=>rfl,Nat.le_refl _,λ_ h=>h⟩,λ_ i a=>.inr ⟨rfl,i,a,rfl⟩⟩
  ·rintro b o (h | ⟨rfl,i,a,rfl⟩)
   ·exact I.io b o h
   ·obtain⟨v,l,_⟩:=h2 i (by omega);exact⟨v,l⟩
  ·intro B c q d n;rw[St.az]at d;split at d
   ·rename_i e;subst e;cases d;obtain rfl:p=q:=Option.some.inj (r.symm.trans n);refine⟨⟨x,h0⟩,by rw[hl];exact h1,λi a=>?_,h3,λ_ i a=>.inr ⟨rfl,i,by rw[<- hl];exact a,rfl⟩,(λhm=>by cases hm),λ_ i Q a hx=>?_⟩
    ·obtain⟨v,l,G,_⟩:=h2 i a;exact⟨v,l,G,λH=>(J i v (by rw[<- hl];exact H) l).mono (λ_ _ _=>rfl) (λ_ _ h=>h) (λ_ _ h=>.inl h)⟩
    ·rcases hx with hx | ⟨_,j,R,e⟩
     ·exact L rfl i a hx
     ·omega
   ·rename_i e;refine (I.dR B c q d n).mono (λ_ _ h=>h) (λ_ _ h=>.inl h) (λ_ _ _=>rfl) rfl (λho i a=>?_);rcases a with a | ⟨O,_⟩
    ·exact a
    ·exact absurd (I.sep B id c _ q p d D ho rfl n r O) e
theorem Inv.toRo (I:Inv cmp w0 μ ι δ s w) {id:Nat}{m:Md}{cs cs':List LV}{p:Place}(k:s.get id=some (.cells m cs)) (l:μ id=some p) (h:cs'=[]∨(m = .app/\cs'=cs)) :
 Inv cmp w0 μ ι δ (s.put id (.cells .ro cs')) w/\(∀ j b p a,(s.put id (.cells .ro cs')).get j=some b->b.owns=true->m≠.ro->μ j=some p->μ id=some a->p.b≠a.b):=by
 obtain⟨⟨x,h0⟩,h1,h2,h3,u,G,h6⟩:=I.dR id _ p k l;refine⟨⟨I.below,I.oh,I.io,?_,?_,I.defers,I.low,I.own⟩,?_⟩
 ·intro y z q c d;rw[St.az]at c;split at c
  ·rename_i e;subst e;cases c;obtain rfl:p=q:=Option.some.inj (l.symm.trans d);refine⟨⟨x,h0⟩,?_,λi f=>?_,h3,?_,(λhm=>by cases hm),(λhm=>by cases hm)⟩
   ·rcases h with rfl | ⟨_,rfl⟩
    ·simp
    ·exact h1
   ·obtain⟨v,A,B,C⟩:=h2 i f;refine⟨v,A,B,λn=>?_⟩;rcases h with rfl | ⟨_,rfl⟩
    ·simp at n
    ·exact C n
   ·intro _ i f;rcases h with rfl | ⟨hm,rfl⟩
    ·simp at f
    ·exact u (by rw[hm];simp) i f
  ·exact I.dR y z q c d
 ·intro i j D b2 p1 p2 g1 g2 o r E F e;rw[St.az]at g1 g2;split at g1
  ·cases g1;cases o
  ·split at g2
   ·cases g2;cases r
   ·exact I.sep i j D b2 p1 p2 g1 g2 o r E F e
 ·intro j b q a gj t hm d g e;rw[St.az]at gj;split at gj
  ·cases gj;cases t
  ·rename_i dB;exact dB (I.sep j id b _ q a gj k t (by cases m<;>first | rfl | exact absurd rfl hm) d g e)
theorem Inv.A5 (I:Inv cmp w0 μ ι δ s w) {b o:Nat}{vs:List Value}(W:uZ b o vs w w') (hB:w0.heap.size<=b) (m:∀ i,i<vs.length->(vs.getD i undef).oneCell'=true) (n:∀ i,i<vs.length->¬ ι b (o+i))
 (hs:∃ x,w.shape? b=some x) (t:∀ j f p,s.get j=some f->f.owns=true->μ j=some p->p.b≠b):Inv cmp w0 μ ι δ s w'/\Ext μ ι δ w μ ι δ w':=by
 have e:=xW W n;refine⟨⟨Below.wrote I.below W hB,λi q u=>by have:=I.oh i q u;rw[W.size];exact this,λb o d=>?_,λid g p k l=>?_,I.sep,λr y=>?_,I.low,λb o d z=>(I.own b o d z).wrote W⟩,
  ⟨λ_ _ h=>h,λ_ _ h=>h,e,Nat.le_of_eq W.size.symm,λ_ h=>h⟩⟩
 ·obtain⟨v,A⟩:=I.io b o d;exact⟨v,(e b o d).trans A⟩
 ·exact (I.dR id g p k l).wrote W m e (λho=>t id g p k ho l)
 ·obtain⟨a,c⟩:=I.defers r y;refine⟨a,?_⟩;rw[W.block r ?_]
  ·exact c
  ·rintro rfl;obtain⟨x,h0⟩:=hs;simp[World.shape?,c]at h0
end
end Go.Pv
end
