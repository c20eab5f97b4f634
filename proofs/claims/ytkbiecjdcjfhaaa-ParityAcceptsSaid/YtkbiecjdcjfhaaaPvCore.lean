/- Plain values, plain code: the data types of the second semantics and its operations, as functions. No program is in sight. -/
import Derived.AtR
import Derived.Laws.World
import Derived.Laws.Sem
import Derived.Below
import Derived.Test.YtkbiecjdcjfhaaaOm
set_option linter.unusedSimpArgs false
set_option linter.unusedVariables false
set_option maxRecDepth 100000
set_option maxHeartbeats 16000000
section
namespace Go.Pv
open Go
inductive LV where
  | top
  | bool (b:Bool)
  | int (k:IntKind) (n:Int)
  | str (s:ByteArray)
  | agg (cs:List LV)
  | cy (vs:List LV)
  | eu
  | aX (cs:List LV) (off:Nat)
  | aH (id off:Nat)
  | aj
  | zs
  | aB (cs:List LV) (len:Nat)
  | aD (id off len aU:Nat)
  | fn (f:Fn) (first caps:List LV)
  | jh
  | qp (id:Nat)
  | q5 (t:TypeId) (v:LV)
  | ld
  | bN
  | aI (id:Nat)
  deriving Inhabited
inductive Tr (α:Type) where
  | nil
  | node (l:Tr α) (v:Option α) (r:Tr α)
def Tr.get {α:Type} : Tr α->Nat->Option α
 | .nil,_=>none
 | .node l v r,i=>if i=0 then v else if i % 2=1 then l.get (i / 2) else r.get (i / 2 - 1)
def Tr.left {α:Type} : Tr α->Tr α | .nil=>.nil | .node l _ _=>l
def Tr.here {α:Type} : Tr α->Option α | .nil=>none | .node _ v _=>v
def Tr.right {α:Type} : Tr α->Tr α | .nil=>.nil | .node _ _ r=>r
def Tr.MV {α:Type}(a:α):Nat->Tr α->Nat->Tr α
 | 0,t,_=>t
 | n+1,t,i=>
   if i=0 then .node t.left (some a) t.right
   else if i % 2=1 then .node (Tr.MV a n t.left (i / 2)) t.here t.right
   else .node t.left t.here (Tr.MV a n t.right (i / 2 - 1))
def Tr.set {α:Type}(t:Tr α) (i:Nat) (a:α):Tr α:=Tr.MV a (i+1) t i
theorem Tr.get_eq {α:Type}(t:Tr α) (i:Nat):t.get i=if i=0 then t.here else if i % 2=1 then t.left.get (i / 2) else t.right.get (i / 2 - 1):=by
 cases t with
 | nil=>simp[Tr.get,Tr.here,Tr.left,Tr.right]
 | node l v r=>simp[Tr.get,Tr.here,Tr.left,Tr.right]
theorem Tr.PB {α:Type}(a:α):∀ (n:Nat) (t:Tr α) (i j:Nat),i<n->(Tr.MV a n t i).get j=if j=i then some a else t.get j:=by
 intro n;induction n with
 | zero=>intro t i j h;omega
 | succ n ih=>
   intro t i j h;unfold Tr.MV;by_cases h0:i=0
   ·subst h0;simp only[if_true];rw[Tr.get_eq t j];by_cases b:j=0
    ·simp[b,Tr.get]
    ·simp[b,Tr.get]
   ·by_cases h1:i % 2=1
    ·rw[if_neg h0,if_pos h1,Tr.get_eq t j];simp only[Tr.get];by_cases b:j=0
     ·have:¬ (0=i):=by omega
      simp[b,this]
     ·by_cases c:j % 2=1
      ·simp only[b,c,if_false,if_true];rw[ih _ _ _ om];by_cases e:j=i
       ·subst e;simp
       ·rw[if_neg e,if_neg om]
      ·have:¬ (j=i):=by intro e;subst e;exact c h1
       simp[b,c,this]
    ·rw[if_neg h0,if_neg h1,Tr.get_eq t j];simp only[Tr.get];by_cases b:j=0
     ·have:¬ (0=i):=by omega
      simp[b,this]
     ·by_cases c:j % 2=1
      ·have:¬ (j=i):=by intro e;subst e;exact h1 c
       simp[b,c,this]
      ·simp only[b,c,if_false];rw[ih _ _ _ om];by_cases e:j=i
       ·subst e;simp
       ·rw[if_neg e,if_neg om]
@[simp] theorem Tr.Cp {α:Type}(t:Tr α) (i j:Nat) (a:α):(t.set i a).get j=if j=i then some a else t.get j:=
  Tr.PB a _ t i j (Nat.lt_succ_self i)
@[simp] theorem Tr.get_nil {α:Type}(i:Nat):(Tr.nil:Tr α).get i=none:=rfl
abbrev Env:=Tr LV
def Env.at (e:Env) (i:Nat):LV:=(Tr.get e i).getD .top
@[simp] theorem Env.qg (e:Env) (i j:Nat) (v:LV):Env.at (Tr.set e i v) j=if j=i then v else Env.at e j:=by
  unfold Env.at;rw[Tr.Cp];split<;>rfl
@[simp] theorem Env.Ya (i:Nat):Env.at .nil i = .top:=rfl
def Env.put (e:Env) (dst:Option Nat) (v:LV):Env:=match dst with | some d=>Tr.set e d v | none=>e
@[simp] theorem Env.au (e:Env) (d:Nat) (v:LV):Env.put e (some d) v=Tr.set e d v:=rfl
@[simp] theorem Env.bI (e:Env) (v:LV):Env.put e none v=e:=rfl
inductive bz where
  | t (i:Nat)
  | c (v:LV)
  deriving Inhabited
def bz.ev (e:Env):bz->LV
 | .t i=>e.at i
 | .c v=>v
@[simp] theorem bz.ev_t (e:Env) (i:Nat):(bz.t i).ev e=e.at i:=rfl
@[simp] theorem bz.ev_c (e:Env) (v:LV):(bz.c v).ev e=v:=rfl
inductive cL where
  | bool | int | str
  | ptr | JC | mp | Zf | q5
  | struct (fs:List (Nat × Nat × cL))
  deriving Inhabited
inductive zj where
  | int (k:IntKind)
  | str
  | st (es:List (Nat × Nat × cL))
  deriving Inhabited
inductive aR where
  | mv (x:bz)
  | pick (c a b:bz)
  | box (im:Bool) (x:bz)
  | alloc (zero:List LV)
  | build (zero:List LV) (parts:List (Nat × Nat × bz))
  | bt (aU len:Nat) (zero:List LV) (parts:List (Nat × Nat × bz))
  | load (n:Option Nat) (x:bz)
  | store (n:Nat) (a x:bz)
  | bP (x:bz)
  | bin (op:BinOp) (x y:bz)
  | eq (neg:Bool) (t:cL) (x y:bz)
  | un (op:UnOp) (x:bz)
  | oA (k:IntKind) (x:bz)
  | ud (x:bz)
  | su (f:Fn) (first caps:List bz)
  | ct (aU bytes:Nat) (zero:List LV) (len cap:bz)
  | slice (aU:Nat) (x:bz) (lo hi:Option bz)
  | pI (x:bz) (lo hi:Option bz)
  | rQ (off:Nat) (x:bz)
  | field (off:Nat) (n:Option Nat) (x:bz)
  | vI (aU:Nat) (x i:bz)
  | tI (aU len:Nat) (x i:bz)
  | tG (aU len:Nat) (n:Option Nat) (x i:bz)
  | pU (x i:bz)
  | ext (x:bz) (i:Nat)
  | xY (x:bz)
  | xX (x:bz)
  | BY (n:Nat)
  | append (aU bytes:Nat) (x y:bz)
  | xb (aU bytes:Nat) (x y:bz)
  | copy (aU:Nat) (x y:bz)
  | uH (x lo hi mx:bz)
  | lF (x:bz)
  | iq (x:Option bz)
  | eD (kd:zj) (zero:LV) (ok:Bool) (m k:bz)
  | lQ (kd:zj) (m k v:bz)
  | kn (x:bz)
  | Ht (x:bz)
  | Hy (aU bytes:Nat) (zero:List LV) (x n:bz)
  | oc (x:bz)
  | ku (x:bz)
  | od (x:bz)
  | mJ (isMax:Bool) (xs:List bz)
  | clr (aU:Nat) (zero:List LV) (x:bz)
  | ni (aU n:Nat) (x:bz) (lo hi:Option bz)
  | call (f:bz) (args:List bz)
  | PZ (neg:Bool) (x y:bz)
  deriving Inhabited
structure bx where
  dst:Option Nat
  op:aR
  guard:Option (Nat × Bool):=none
  m8:List (Nat × Option (Nat × Bool) × aR):=[]
  /-- 'PN: the order is drawn here. -/
  fl:Bool:=false
  deriving Inhabited
inductive bp where
  | skip
  | region (ops:List bx)
  | alts (ls:List (List bx))
  | seq (a b:bp)
  | cond (c:bz) (a b:bp)
  | block (id:Nat) (c:bp)
  | loop (c:bp)
  | rangeFunc (f:bz) (ps:List Nat) (assign body:bp)
  | exit (id:Nat)
  | scope (c:bp)
  | ret
  | bad
  deriving Inhabited
inductive HB where
  | tmp (t:Nat)
  | cell (t:Nat) (n:Option Nat)
  deriving Inhabited
structure aZ where
  ntmps:Nat
  results:List HB
  body:bp
  deriving Inhabited
inductive CH where
  | ret
  | exit (id:Nat)
inductive Md where
  | mut | app | ro
  deriving DecidableEq,Inhabited
inductive iC where
  | cells (m:Md) (cs:List LV)
  | map (es:List (LV × LV))
  /-- a walk over a map: the map,how many entries it held at first,which have been seen,how many it held at the last step -/
  | iter (m:Option Nat) (n0:Nat) (seen:List Nat) (last:Nat)
  | loop (st:LoopState) (b9:Option CH) (env:Env) (ps:List Nat) (assign body:bp)
structure St where
  n:Nat
  h:Tr iC
def St.get (s:St) (id:Nat):Option iC:=s.h.get id
def St.put (s:St) (id:Nat) (b:iC):St:={ s with h:=s.h.set id b }
def St.new (s:St) (b:iC):St:=⟨s.n+1,s.h.set s.n b⟩
def St.empty:St:=⟨0, .nil⟩
@[simp] theorem St.ah (s:St) (id j:Nat) (b:iC):(s.put id b).get j=if j=id then some b else s.get j:=Tr.Cp _ _ _ _
@[simp] theorem St.az (s:St) (j:Nat) (b:iC):(s.new b).get j=if j=s.n then some b else s.get j:=Tr.Cp _ _ _ _
@[simp] theorem St.dP (s:St) (id:Nat) (b:iC):(s.put id b).n=s.n:=rfl
@[simp] theorem St.dZ (s:St) (b:iC):(s.new b).n=s.n+1:=rfl
@[simp] theorem St.Zd (j:Nat):St.empty.get j=none:=rfl
def aV:LV->Bool
 | .agg _ | .top | .cy _=>false
 | _=>true
def cells? : LV->Option (List LV)
 | .agg cs=>if cs.all aV then some cs else none
 | .top | .cy _=>none
 | v=>some [v]
def dY:LV:=.cy []
def LV.closed:LV->Bool
 | .top=>false
 | .bool _ | .int .. | .str _ | .eu | .aj | .zs | .jh | .ld | .bN=>true
 | .agg cs=>aq cs
 | .cy cs=>aq cs
 | .aX cs _=>aq cs
 | .aB cs _=>aq cs
 | .fn _ a b=>aq a && aq b
 | .q5 _ v=>v.closed
 | .aH .. | .aD .. | .qp _ | .aI _=>false
where aq:List LV->Bool
 | []=>true
 | v::r=>v.closed && aq r
def cK : Nat -> LV -> St -> Option (LV × St)
 | 0,_,_=>none
 | n + 1, v, s =>
   if v.closed then some (v,s) else
   match v with
   | .agg cs=>do let (cs,s) <- cu (cK n) cs s;some (.agg cs,s)
   | .cy cs=>do let (cs,s) <- cu (cK n) cs s;some (.cy cs,s)
   | .q5 t v=>do let (v,s) <- cK n v s;some (.q5 t v,s)
   | .fn f a b=>do let (a,s) <- cu (cK n) a s;let (b,s) <- cu (cK n) b s;some (.fn f a b,s)
   | .aD id off len aU=>
     match s.get id with
     | some (.cells m cs) =>
       if off+len*aU<=cs.length then do
        let (cs,s) <- cu (cK n) cs s;some (.aB ((cs.drop off).take (len*aU)) len,s.put id (.cells (if m = .mut then .app else m) cs))
       else none
     | _=>none
   | .aH id off=>
     match s.get id with
     | some (.cells m cs) =>
       if off<cs.length then do
        let (cs,s) <- cu (cK n) cs s;some (.aX cs off,s.put id (.cells (if m = .mut then .app else m) cs))
       else none
     | _=>none
   | _=>none
where cu (f:LV->St->Option (LV × St)):List LV->St->Option (List LV × St)
 | [],s=>some ([],s)
 | v::r,s=>do let (v,s) <- f v s;let (r,s) <- cu f r s;some (v::r,s)
def aY:Nat:=40
def fU (l:List LV) (s:St):List LV × St:=
 match cK.cu (cK aY) l s with
 | some r=>r
 | none=>(l,s)
def splice:List LV->Nat->List LV->List LV
 | cs,_,[]=>cs
 | cs,off,v::vs=>splice (cs.set off v) (off+1) vs
theorem mD (vs:List LV):∀ (cs:List LV) (off:Nat),(splice cs off vs).length=cs.length:=by
 induction vs with
 | nil=>intros;rfl
 | cons v vs ih=>intro cs off;simp[splice,ih]
def aT (n:Option Nat) (cs:List LV) (off:Nat):Option LV:=
 match n with
 | none=>cs[off]?
 | some k=>if off+k<=cs.length then some (.agg ((cs.drop off).take k)) else none
def aW:List LV->List (Nat × Nat × LV)->Option (List LV)
 | cs,[]=>some cs
 | cs,(off,size,v)::r=>
   match cells? v with
   | some vs=>if vs.length=size/\off+size<=cs.length then aW (splice cs off vs) r else none
   | none=>none
def bB (e:Env) (ls:List (Nat × Nat × bz)):List (Nat × Nat × LV):=ls.map λq=>(q.1,q.2.1,q.2.2.ev e)
def uP (op:BinOp) (k:IntKind) (x y:Int):Option LV:=
 match op with
 | .add=>some (.int k (k.wrap (x+y)))
 | .sub=>some (.int k (k.wrap (x - y)))
 | .mul=>some (.int k (k.wrap (x*y)))
 | .quo=>if y=0 then none else some (.int k (k.wrap (x.tdiv y)))
 | .rem=>if y=0 then none else some (.int k (x.tmod y))
 | .and=>some (.int k (k.wrap ((BitVec.ofInt k.bits x &&& BitVec.ofInt k.bits y).toNat)))
 | .or=>some (.int k (k.wrap ((BitVec.ofInt k.bits x ||| BitVec.ofInt k.bits y).toNat)))
 | .xor=>some (.int k (k.wrap ((BitVec.ofInt k.bits x ^^^ BitVec.ofInt k.bits y).toNat)))
 | .andNot=>some (.int k (k.wrap ((BitVec.ofInt k.bits x &&& ~~~ BitVec.ofInt k.bits y).toNat)))
 | .eql=>some (.bool (x == y))
 | .neq=>some (.bool (x != y))
 | .lss=>some (.bool (x<y))
 | .leq=>some (.bool (x<=y))
 | .gtr=>some (.bool (x > y))
 | .geq=>some (.bool (x ≥ y))
 | _=>none
def FL (op:BinOp) (x y:ByteArray):Option LV:=
 let eq:=x.toList == y.toList;let lt:=Op.bytesLess x.toList y.toList;match op with
 | .add=>if ((x.size+y.size:Nat):Int) > IntKind.i64.max then none else some (.str (x++y))
 | .eql=>some (.bool eq)
 | .neq=>some (.bool !eq)
 | .lss=>some (.bool lt)
 | .leq=>some (.bool (lt || eq))
 | .gtr=>some (.bool !(lt || eq))
 | .geq=>some (.bool !lt)
 | _=>none
def iA (op:BinOp):LV->LV->Option LV
 | .int k x, .int a y=>
   match op with
   | .shl=>if y<0 then none else some (.int k (k.wrap (x*2 ^ (min y.toNat k.bits))))
   | .shr=>if y<0 then none else some (.int k (x.fdiv (2 ^ (min y.toNat k.bits))))
   | _=>if k=a then uP op k x y else none
 | .str x, .str y=>FL op x y
 | _,_=>none
def wh:cL->LV->LV->Option Bool
 | .bool, .bool a, .bool b=>some (a == b)
 | .int, .int k a, .int c b=>if k=c then some (a == b) else none
 | .str, .str a, .str b=>some (a == b)
 | _,_,_=>none
def jP:cL->LV->LV->Option Bool
 | .ptr, .eu, .eu=>some true
 | .ptr, .eu, .aX .. | .ptr, .eu, .aH .. | .ptr, .aX .., .eu | .ptr, .aH .., .eu=>some false
 | .JC, .aj, .zs | .JC, .zs, .aj=>some false
 | .JC, .aj, .aj=>some true
 | .JC, .aj, .aB .. | .JC, .aj, .aD .. | .JC, .aB .., .aj | .JC, .aD .., .aj=>some false
 | .mp, .bN, .bN=>some true
 | .mp, .bN, .aI _ | .mp, .aI _, .bN=>some false
 | .Zf, .jh, .jh=>some true
 | .Zf, .jh, .fn .. | .Zf, .fn .., .jh=>some false
 | .q5, .ld, .q5 .. | .q5, .q5 .., .ld=>some false
 | .struct fs, .agg xs, .agg ys=>eqFields fs xs ys
 | t,x,y=>wh t x y
where eqFields:List (Nat × Nat × cL)->List LV->List LV->Option Bool
 | [],_,_=>some true
 | (off,_,t)::r,xs,ys=>
   match xs[off]?,ys[off]? with
   | some x,some y=>
     match wh t x y with
     | some true=>eqFields r xs ys
     | some false=>some false
     | none=>none
   | _,_=>none
def eH (op:UnOp):LV->Option LV
 | .int k n=>match op with
   | .neg=>some (.int k (k.wrap (0 - n)))
   | _=>none
 | .bool b=>match op with | .not=>some (.bool !b) | _=>none
 | _=>none
def idxOf (len:Nat):LV->Option Nat
 | .int _ i=>if 0<=i/\i<len then some i.toNat else none
 | _=>none
def fM (d:Nat) (max:Nat):Option LV->Option Nat
 | none=>some d
 | some (.int _ i)=>if 0<=i/\i<=max then some i.toNat else none
 | some _=>none
def big:Nat:=2 ^ 32
def rep (n:Nat) (zero:List LV):List LV:=(List.replicate n zero).flatten
def me:LV->Option Nat
 | .aj=>some 0
 | .zs=>some 0
 | .aB _ n=>some n
 | .aD _ _ n _=>some n
 | .str s=>some s.size
 | _=>none
def fm:LV->Option Nat
 | .aj=>some 0
 | .zs=>some 0
 | .aB _ n=>some n
 | .aD _ _ n _=>some n
 | _=>none
def rowOf (s:St) (aU n:Nat):LV->Option (List LV)
 | .aj=>if n=0 then some [] else none
 | .zs=>if n=0 then some [] else none
 | .aB cs len=>if n<=len/\len*aU=cs.length then some (cs.take (n*aU)) else none
 | .aD id off len e=>
   match s.get id with
   | some (.cells _ cs)=>if e=aU/\n<=len/\off+len*aU<=cs.length then some ((cs.drop off).take (n*aU)) else none
   | _=>none
 | .str b=>if aU=1/\n<=b.size then some ((b.data.toList.take n).map λx=>.int .u8 x.toNat) else none
 | _=>none
def bF (aU:Nat) (bytes:Nat) (x:LV) (new:List LV) (k:Nat) (s:St):Option (LV × St) :=
 match x with
 | .zs=>if k=0 then some (.zs,s) else if k*bytes<=big/\new.length=k*aU then some (.aD s.n 0 k aU,s.new (.cells .mut new)) else none
 | .aj=>if k=0 then some (.aj,s) else if k*bytes<=big/\new.length=k*aU then some (.aD s.n 0 k aU,s.new (.cells .mut new)) else none
 | .aD id off len e=>
   if e=aU then
   match s.get id with
   | some (.cells .mut cs) =>
     if off+len*aU<=cs.length/\(len+k)*bytes<=big/\new.length=k*aU then
      some (.aD s.n 0 (len+k) aU,⟨s.n+1,(s.h.set id (.cells .ro [])).set s.n (.cells .mut ((cs.drop off).take (len*aU)++new))⟩)
     else none
   | some (.cells .app cs) =>
     if off+len*aU=cs.length/\(len+k)*bytes<=big/\new.length=k*aU then
      some (.aD s.n 0 (len+k) aU,⟨s.n+1,(s.h.set id (.cells .ro cs)).set s.n (.cells .app ((cs.drop off).take (len*aU)++new))⟩)
     else none
   | _=>none
   else none
 | _=>none
def tC:LV->LV->Option Bool
 | .int k a, .int c b=>if k=c then some (a == b) else none
 | .str a, .str b=>some (decide (a.data.toList=b.data.toList))
 | _,_=>none
def Wp:LV->Bool
 | .int .. => true
 | _=>false
def jI:List LV->List LV->Bool
 | [],[]=>true
 | .int k a::r, .int c b::r'=>k == c && a == b && jI r r'
 | _,_=>false
def iu:zj->LV->Bool
 | .int k, .int a _=>a == k
 | .str, .str _=>true
 | .st es, .agg cs=>es.all (λf=>f.1<cs.length) && cs.all Wp
 | _,_=>false
def iM:zj->LV->LV->Option Bool
 | .st es, .agg xs, .agg a=>
   match jP.eqFields es xs a with
   | some true=>if jI xs a then some true else none
   | r=>r
 | .st _,_,_=>none
 | _,x,y=>tC x y
def fu (kd:zj) (k:LV):List (LV × LV)->Nat->Option (Option (Nat × LV))
 | [],_=>some none
 | (a,v)::r,i=>
   match iM kd k a with
   | some true=>some (some (i,v))
   | some false=>fu kd k r (i+1)
   | none=>none
def bytesOf:List LV->Option (List UInt8)
 | []=>some []
 | .int .u8 n::r=>do some (UInt8.ofNat n.toNat::(<- bytesOf r))
 | _=>none
def eR (isMax:Bool):List LV->Option LV
 | .int k x::rest=>(go k x rest).map (.int k)
 | _=>none
where go (k:IntKind) (x:Int):List LV->Option Int
 | []=>some x
 | .int k' y::r=>if k=k' then go k (if isMax then (if y > x then y else x) else (if y<x then y else x)) r else none
 | _=>none
def aE:Option (Nat × Bool)->Env->Option Bool
 | none,_=>some true
 | some (d,a),e=>match e.at d with | .bool b=>some (b == a) | .cy _=>some false | _=>none
def aR.run (o:aR) (e:Env) (s:St):Option (LV × St) :=
 match o with
 | .mv x=>some (x.ev e,s)
 | .pick c a b=>match c.ev e with | .bool t=>some (if t then a.ev e else b.ev e,s) | _=>none
 | .box true x=>do
   let (v,s) <- cK aY (x.ev e) s;let cs <- cells? v;if cs.length=0 then none else some (.aX cs 0,s)
 | .box false x=>do
   let cs <- cells? (x.ev e);some (.aH s.n 0,s.new (.cells .mut cs))
 | .alloc z=>some (.aH s.n 0,s.new (.cells .mut z))
 | .build z ps=>do
   let cs <- aW z (bB e ps);some (.agg cs,s)
 | .bt d len z ps=>do
   let cs <- aW (rep len z) (bB e ps);some (.aD s.n 0 len d,s.new (.cells .mut cs))
 | .load n x=>
   match x.ev e with
   | .aX cs off=>do some (<- aT n cs off,s)
   | .aH id off=>match s.get id with | some (.cells _ cs)=>do some (<- aT n cs off,s) | _=>none
   | _=>none
 | .store n a x=>
   match a.ev e,cells? (x.ev e) with
   | .aH id off,some vs=>
     match s.get id with
     | some (.cells .mut cs)=>if vs.length=n/\off+n<=cs.length then some (dY,s.put id (.cells .mut (splice cs off vs))) else none
     | _=>none
   | _,_=>none
 | .bP x=>match x.ev e with | .aX c o=>some (.aX c o,s) | .aH i o=>some (.aH i o,s) | .fn (.func f) a b=>some (.fn (.func f) a b,s) | .qp i=>some (.qp i,s) | _=>none
 | .bin op x y=>do some (<- iA op (x.ev e) (y.ev e),s)
 | .eq neg t x y=>do let b <- jP t (x.ev e) (y.ev e);some (.bool (if neg then !b else b),s)
 | .un op x=>do some (<- eH op (x.ev e),s)
 | .oA k x=>match x.ev e with | .int _ n=>some (.int k (k.wrap n),s) | _=>none
 | .ud x=>match x.ev e with | .str b=>some (.str b,s) | _=>none
 | .su f a b=>some (.fn f (a.map (·.ev e)) (b.map (·.ev e)),s)
 | .ct d bytes z l c=>
   match l.ev e,c.ev e with
   | .int _ l, .int _ c=>if 0<=l/\l<=c/\c*bytes<=big/\c<=big/\z.length=d then some (.aD s.n 0 l.toNat d,s.new (.cells .mut (rep l.toNat z))) else none
   | _,_=>none
 | .slice d x lo j=>
   match x.ev e with
   | .zs=>do
     let h <- fM 0 0 (j.map (·.ev e));let l <- fM 0 h (lo.map (·.ev e));if l=0/\h=0 then some (.zs,s) else none
   | .aj=>do
     let h <- fM 0 0 (j.map (·.ev e));let l <- fM 0 h (lo.map (·.ev e));if l=0/\h=0 then some (.aj,s) else none
   | .aB cs len=>do
     let h <- fM len len (j.map (·.ev e));let l <- fM 0 h (lo.map (·.ev e));if cs.length=len*d then some (.aB ((cs.drop (l*d)).take ((h - l)*d)) (h - l),s) else none
   | .aD id off len g=>do
     let h <- fM len len (j.map (·.ev e));let l <- fM 0 h (lo.map (·.ev e));if g=d then some (.aD id (off+l*d) (h - l) d,s) else none
   | _=>none
 | .pI x lo j=>
   match x.ev e with
   | .str b=>do
     let h <- fM b.size b.size (j.map (·.ev e));let l <- fM 0 h (lo.map (·.ev e));some (.str (b.extract l h),s)
   | _=>none
 | .rQ off x=>match x.ev e with | .aX cs o=>some (.aX cs (o+off),s) | .aH i o=>some (.aH i (o+off),s) | _=>none
 | .field off n x=>match x.ev e with | .agg cs=>do some (<- aT n cs off,s) | _=>none
 | .vI d x i=>
   match x.ev e with
   | .aB cs len=>do let k <- idxOf len (i.ev e);some (.aX cs (k*d),s)
   | .aD id off len g=>do let k <- idxOf len (i.ev e);if g=d then some (.aH id (off+k*d),s) else none
   | _=>none
 | .tI d len x i=>
   match x.ev e with
   | .aX cs o=>do let k <- idxOf len (i.ev e);some (.aX cs (o+k*d),s)
   | .aH id o=>do let k <- idxOf len (i.ev e);some (.aH id (o+k*d),s)
   | _=>none
 | .tG d len n x i=>match x.ev e with | .agg cs=>do let k <- idxOf len (i.ev e);some (<- aT n cs (k*d),s) | _=>none
 | .pU x i=>match x.ev e with | .str b=>do let k <- idxOf b.size (i.ev e);some (.int .u8 ((b.data.getD k 0).toNat),s) | _=>none
 | .ext x i=>match x.ev e with | .cy vs=>do some (<- vs[i]?,s) | _=>none
 | .xY x=>do some (.int .i64 (<- fm (x.ev e)),s)
 | .xX x=>match x.ev e with | .str b=>some (.int .i64 b.size,s) | _=>none
 | .BY n=>some (.int .i64 n,s)
 | .append d bytes x y=>do
   let n <- me (y.ev e);let new <- rowOf s d n (y.ev e);let (new,s):=fU new s;bF d bytes (x.ev e) new n s
 | .xb d bytes x y=>do
   let n <- me (y.ev e);let new <- rowOf s d n (y.ev e);bF d bytes (x.ev e) new n s
 | .copy d x y=>do
   let n <- me (y.ev e);match x.ev e with
   | .aD id off len g=>
     let k:=min n len;let new <- rowOf s d k (y.ev e);match s.get id with
     | some (.cells .mut cs)=>if g=d/\off+len*d<=cs.length then some (.int .i64 k,s.put id (.cells .mut (splice cs off new))) else none
     | _=>none
   | .aj=>some (.int .i64 0,s)
   | _=>none
 | .uH x lo j q=>
   match lo.ev e,j.ev e,q.ev e,fm (x.ev e) with
   | .int _ l, .int _ h, .int _ m,some len=>
     if l=h/\h=m/\0<=l/\l<=len then (match x.ev e with | .aj=>some (.aj,s) | .top=>none | _=>some (.zs,s)) else none
   | _,_,_,_=>none
 | .lF x=>do
   let n <- fm (x.ev e);let cs <- rowOf s 1 n (x.ev e);let u <- bytesOf cs;some (.str ⟨u.toArray⟩,s)
 | .iq x=>
   match x with
   | none=>some (.aI s.n,s.new (.map []))
   | some y=>match y.ev e with | .int _ _=>some (.aI s.n,s.new (.map [])) | _=>none
 | .eD kd zero ok m k=>
   if iu kd (k.ev e) then
   match m.ev e with
   | .bN=>some (if ok then .cy [zero, .bool false] else zero,s)
   | .aI id=>
     match s.get id with
     | some (.map g)=>do
       let r <- fu kd (k.ev e) g 0;let (v,b):=match r with | some (_,v)=>(v,true) | none=>(zero,false)
       some (if ok then .cy [v, .bool b] else v,s)
     | _=>none
   | _=>none
   else none
 | .lQ kd m k v=>
   if iu kd (k.ev e) then
   match m.ev e with
   | .aI id=>
     match s.get id with
     | some (.map g)=>do
       let r <- fu kd (k.ev e) g 0;match r with
       | some (i,_)=>some (dY,s.put id (.map (g.set i (k.ev e,v.ev e))))
       | none=>some (dY,s.put id (.map (g++[(k.ev e,v.ev e)])))
     | _=>none
   | _=>none
   else none
 | .kn x=>
   match x.ev e with
   | .bN=>some (.int .i64 0,s)
   | .aI id=>match s.get id with | some (.map g)=>some (.int .i64 g.length,s) | _=>none
   | _=>none
 | .Ht x=>match x.ev e with | .aj=>some (.int .i64 0,s) | .zs=>some (.int .i64 0,s) | _=>none
 | .Hy d bytes z x n=>
   match x.ev e,n.ev e with
   | .aj, .int _ k=>
     if k=0 then some (.aj,s)
     else if 0<k/\k*bytes<=big/\k<=big then some (.aD s.n 0 k.toNat d,s.new (.cells .mut (rep k.toNat z))) else none
   | _,_=>none
 | .oc x=>
   match x.ev e with
   | .bN=>some (.aH s.n 0,s.new (.iter none 0 [] 0))
   | .aI id=>match s.get id with | some (.map g)=>some (.aH s.n 0,s.new (.iter (some id) g.length [] g.length)) | _=>none
   | _=>none
 | .ku _=>none
 | .od x=>
   match x.ev e with
   | .aH id 0=>
     match s.get id with
     | some (.iter (some m) _ seen p) =>
       match s.get m with
       | some (.map g) =>
         match seen.getLast? with
         | some i=>if g.length=p/\i<g.length then some (.cy [(g.getD i default).1,(g.getD i default).2],s) else none
         | none=>none
       | _=>none
     | _=>none
   | _=>none
 | .mJ m xs=>do some (<- eR m (xs.map (·.ev e)),s)
 | .ni d n x lo j=>
   match x.ev e with
   | .aH id off=>do
     let h <- fM n n (j.map (·.ev e));let l <- fM 0 h (lo.map (·.ev e));match s.get id with
     | some (.cells .mut cs)=>if off+n*d<=cs.length then some (.aD id (off+l*d) (h - l) d,s) else none
     | _=>none
   | _=>none
 | .clr d z x=>
   match x.ev e with
   | .aj=>some (dY,s)
   | .zs=>some (dY,s)
   | .aD id off len g=>
     if len=0 then some (dY,s) else
     match s.get id with
     | some (.cells .mut cs)=>if g=d/\z.length=d/\off+len*d<=cs.length then some (dY,s.put id (.cells .mut (splice cs off (rep len z)))) else none
     | _=>none
   | _=>none
 | .call .. => none
 | .PZ .. => none
def agree:LV->LV->Bool
 | .int k a, .int k' b=>k == k' && a == b
 | .str a, .str b=>a.data.toList == b.data.toList
 | .bool a, .bool b=>a == b
 | .aj, .aB _ _=>false
 | .aB _ _, .aj=>false
 | .aB cs n, .aB cs' n'=>n == n' && vg cs cs'
 | _,_=>true
where vg:List LV->List LV->Bool
 | a::r,b::r'=>agree a b && vg r r'
 | _,_=>true
def uO:LV->Bool
 | .aj | .zs | .aB _ _=>true
 | _=>false
def B3:LV->Bool
 | .int .. | .str _ | .bool _=>true
 | _=>false
def Z2:Nat:=4294967295
def BN (G:List (Nat × List LV)):Bool:=G.any (λx=>x.1 == Z2 && x.2.isEmpty) && G.all λx=>x.2.all B3
def bz.tmps:bz->List Nat
 | .t i=>[i]
 | .c _=>[]
def bC:Option bz->List Nat
 | some x=>x.tmps
 | none=>[]
def aR.tmps:aR->List Nat
 | .mv x | .box _ x | .load _ x | .bP x | .un _ x | .oA _ x | .ud x | .rQ _ x | .field _ _ x | .ext x _ | .xY x | .xX x | .lF x | .kn x | .Ht x | .oc x | .ku x | .od x=>x.tmps
 | .pick a b c=>a.tmps++b.tmps++c.tmps
 | .alloc _ | .BY _=>[]
 | .iq x=>bC x
 | .uH a b c d=>a.tmps++b.tmps++c.tmps++d.tmps
 | .eD _ _ _ a b=>a.tmps++b.tmps
 | .lQ _ a b c=>a.tmps++b.tmps++c.tmps
 | .build _ ps | .bt _ _ _ ps=>ps.flatMap λq=>q.2.2.tmps
 | .store _ a b | .bin _ a b | .eq _ _ a b | .vI _ a b | .tI _ _ a b | .tG _ _ _ a b | .pU a b | .append _ _ a b | .xb _ _ a b | .Hy _ _ _ a b | .copy _ a b | .ct _ _ _ a b=>a.tmps++b.tmps
 | .su _ a b=>a.flatMap (·.tmps)++b.flatMap (·.tmps)
 | .slice _ x a b | .pI x a b | .ni _ _ x a b=>x.tmps++bC a++bC b
 | .mJ _ xs=>xs.flatMap (·.tmps)
 | .clr _ _ x=>x.tmps
 | .call f as=>f.tmps++as.flatMap (·.tmps)
 | .PZ _ a b=>a.tmps++b.tmps
open Go Go.RowKit
structure Place where
  b:Nat
  off:Nat
  cap:Nat
abbrev Mu:=Nat->Option Place
abbrev Io:=Nat->Nat->Prop
inductive Rv (μ:Mu) (ι:Io) (w:World):LV->Value->Prop where
  | top (v:Value):Rv μ ι w .top v
  | bool (b:Bool):Rv μ ι w (.bool b) (.bool b)
  | int (k:IntKind) (n:Int):Rv μ ι w (.int k n) (.int k n)
  | str (s:ByteArray):Rv μ ι w (.str s) (.string s)
  | agg {cs:List LV}{vs:Array Value}(hl:vs.size=cs.length) (h:∀ i,i<cs.length->Rv μ ι w (cs.getD i .top) (vs.getD i undef)):Rv μ ι w (.agg cs) (.agg vs)
  | cy {cs:List LV}{vs:Array Value}(hl:vs.size=cs.length) (h:∀ i,i<cs.length->Rv μ ι w (cs.getD i .top) (vs.getD i undef)):Rv μ ι w (.cy cs) (.tuple vs)
  | eu:Rv μ ι w .eu (.pointer none)
  | aX {cs:List LV}{off b o:Nat}(vs:Nat->Value) (hc:∀ i,i<cs.length->w.cell? ⟨b,o+i,none⟩=some (vs i))
      (hi:∀ i,i<cs.length->ι b (o+i)) (h1:∀ i,i<cs.length->(vs i).oneCell'=true) (h:∀ i,i<cs.length->Rv μ ι w (cs.getD i .top) (vs i)):Rv μ ι w (.aX cs off) (.pointer (some ⟨b,o+off,none⟩))
  | aH {id off:Nat}{p:Place}(hp:μ id=some p):Rv μ ι w (.aH id off) (.pointer (some ⟨p.b,p.off+off,none⟩))
  | aj:Rv μ ι w .aj (.slice none 0 0)
  | zs (a:Addr):Rv μ ι w .zs (.slice (some a) 0 0)
  | aB {cs:List LV}{len b o cap:Nat}(vs:Nat->Value) (hc:∀ i,i<cs.length->w.cell? ⟨b,o+i,none⟩=some (vs i))
      (hi:∀ i,i<cs.length->ι b (o+i)) (h1:∀ i,i<cs.length->(vs i).oneCell'=true) (h:∀ i,i<cs.length->Rv μ ι w (cs.getD i .top) (vs i)) (pq:len<=cap):Rv μ ι w (.aB cs len) (.slice (some ⟨b,o,none⟩) len cap)
  | aD {id off len aU cap:Nat}{p:Place}{off':Nat}(hp:μ id=some p) (gR:off+cap*aU<=p.cap) (pq:len<=cap) (sP:cap≠0->off'=off) :
      Rv μ ι w (.aD id off len aU) (.slice (some ⟨p.b,p.off+off',none⟩) len cap)
  | fn {f:Fn}{a b:List LV}{va vb:Array Value}(hl:va.size=a.length) (nT:vb.size=b.length) (h:∀ i,i<a.length->Rv μ ι w (a.getD i .top) (va.getD i undef))
      (h':∀ i,i<b.length->Rv μ ι w (b.getD i .top) (vb.getD i undef)):Rv μ ι w (.fn f a b) (.func f va vb)
  | jh:Rv μ ι w .jh .nilFunc
  | qp {id:Nat}{p:Place}(hp:μ id=some p):Rv μ ι w (.qp id) (.func (.yield p.b) #[] #[])
  | q5 {t:TypeId}{v:LV}{x:Value}(h:Rv μ ι w v x):Rv μ ι w (.q5 t v) (.iface t x)
  | ld:Rv μ ι w .ld .nilIface
  | bN:Rv μ ι w .bN (.map none)
  | aI {id:Nat}{p:Place}(hp:μ id=some p):Rv μ ι w (.aI id) (.map (some p.b))
theorem Rv.mono {μ bT:Mu}{ι bW:Io}{w w':World}(j:∀ b o,ι b o->w'.cell? ⟨b,o,none⟩=w.cell? ⟨b,o,none⟩)
 (e:∀ id p,μ id=some p->bT id=some p) (l:∀ b o,ι b o->bW b o) {v:LV}{x:Value}(h:Rv μ ι w v x):Rv bT bW w' v x:=by
 induction h with
 | top v=>exact .top v
 | bool b=>exact .bool b
 | int k n=>exact .int k n
 | str s=>exact .str s
 | agg hl _ ih=>exact .agg hl ih
 | cy hl _ ih=>exact .cy hl ih
 | eu=>exact .eu
 | aX vs f d h1 _ ih=>exact .aX vs (λi h=>(j _ _ (d i h)).trans (f i h)) (λi h=>l _ _ (d i h)) h1 ih
 | aH c=>exact .aH (e _ _ c)
 | aj=>exact .aj
 | zs a=>exact .zs a
 | aB vs f d h1 _ g ih=>exact .aB vs (λi h=>(j _ _ (d i h)).trans (f i h)) (λi h=>l _ _ (d i h)) h1 ih g
 | aD c m g q=>exact .aD (e _ _ c) m g q
 | fn hl r _ _ ih t=>exact .fn hl r ih t
 | jh=>exact .jh
 | qp c=>exact .qp (e _ _ c)
 | q5 _ ih=>exact .q5 ih
 | ld=>exact .ld
 | bN=>exact .bN
 | aI c=>exact .aI (e _ _ c)
def Rs (μ:Mu) (ι:Io) (w:World) (cs:List LV) (vs:List Value):Prop:=vs.length=cs.length/\∀ i,i<cs.length->Rv μ ι w (cs.getD i .top) (vs.getD i undef)
def Re (μ:Mu) (ι:Io) (w:World) (e:Env) (tmps:Array Value):Prop:=∀ t,Rv μ ι w (e.at t) (tmps.getD t undef)
def CH.code:CH->Code
 | .ret=>.ret
 | .exit id=>.exit id
def B5:LV->Bool
 | .int .. | .str _ | .agg _=>true
 | _=>false
def Rb (cmp:Nat->bp->Code->Prop) (μ:Mu) (ι:Io) (w:World) (p:Place):iC->Prop
 | .cells m cs=>(∃ x,w.shape? p.b=some x)/\cs.length<=p.cap /\
  (∀ i,i<p.cap->∃ v,w.cell? ⟨p.b,p.off+i,none⟩=some v/\v.oneCell'=true/\(i<cs.length->Rv μ ι w (cs.getD i .top) v)) /\
  (∀ o,w.frozen? ⟨p.b,o,none⟩=false) /\
  (m≠.mut->∀ i,i<cs.length->ι p.b (p.off+i)) /\
  (m = .mut->∀ i,i<p.cap->¬ ι p.b (p.off+i)) /\
  (m = .app->∀ i,cs.length<=i->i<p.cap->¬ ι p.b (p.off+i))
 | .map es=>∃ arr,w.heap[p.b]? = some (.map arr es.length)/\arr.size=es.length/\∀ i,i<es.length->((arr.getD i default).born=i/\B5 (es.getD i default).1=true/\Rv μ ι w (es.getD i default).1 (arr.getD i default).key/\Rv μ ι w (es.getD i default).2 (arr.getD i default).val)
 | .iter m d seen last=>p.off=0/\∃ a,w.heap[p.b]? = some (.mapIter a d seen.toArray last)/\(match m with | none=>a=none | some id=>∃ pm,μ id=some pm/\a=some pm.b)
 | .loop st e c ps assign body=>∃ L:Loop,w.heap[p.b]? = some (.loop L)/\L.state=st/\L.pending=e.map CH.code/\Re μ ι w c L.tmps /\
  (∀ i∈ps,i<L.tmps.size)/\L.params=ps.toArray/\cmp L.tmps.size assign L.assign/\cmp L.tmps.size body L.body
def iC.owns:iC->Bool
 | .cells .ro _=>false
 | _=>true
structure Bs where
  w:World
  κ:Io
def Bs.heap (w0:Bs):Array Obj:=w0.w.heap
def iS (w:World) (b:Nat):Prop:=(∃ x,w.shape? b=some x)/\∀ o,w.frozen? ⟨b,o,none⟩=false
structure Inv (cmp:Nat->bp->Code->Prop) (w0:Bs) (μ:Mu) (ι:Io) (δ:Nat->Prop) (s:St) (w:World):Prop where
  below:Below w0.heap.size w0.w w
  nX:∀ id p,μ id=some p->id<s.n/\w0.heap.size<=p.b/\p.b<w.heap.size
  io:∀ b o,ι b o->∃ v,w.cell? ⟨b,o,none⟩=some v
  dD:∀ id b p,s.get id=some b->μ id=some p->Rb cmp μ ι w p b
  sep:∀ id jW b b' p p',s.get id=some b->s.get jW=some b'->b.owns=true->b'.owns=true->μ id=some p->μ jW=some p'->p.b=p'.b->id=jW
  defers:∀ r,δ r->w0.heap.size<=r/\w.heap[r]? = some (.deferred (some []))
  low:∀ b o,ι b o->b<w0.heap.size->w0.κ b o
  own:∀ b o,ι b o->w0.heap.size<=b->iS w b
structure Kept (μ:Mu) (s:St) (bT:Mu) (s':St):Prop where
  n:s.n<=s'.n
  get:∀ id,id<s.n->μ id=none->s'.get id=s.get id
  free:∀ id,id<s.n->μ id=none->bT id=none
theorem Kept.refl (μ:Mu) (s:St):Kept μ s μ s:=⟨Nat.le_refl _,λ_ _ _=>rfl,λ_ _ h=>h⟩
structure Ext (μ:Mu) (ι:Io) (δ:Nat->Prop) (w:World) (bT:Mu) (bW:Io) (lI:Nat->Prop) (w':World):Prop where
  mu:∀ id p,μ id=some p->bT id=some p
  io:∀ b o,ι b o->bW b o
  cell:∀ b o,ι b o->w'.cell? ⟨b,o,none⟩=w.cell? ⟨b,o,none⟩
  size:w.heap.size<=w'.heap.size
  de:∀ r,δ r->lI r
theorem Ext.refl (μ:Mu) (ι:Io) (δ:Nat->Prop) (w:World):Ext μ ι δ w μ ι δ w:=⟨λ_ _ h=>h,λ_ _ h=>h,λ_ _ _=>rfl,Nat.le_refl _,λ_ h=>h⟩
theorem Ext.trans {μ bT a:Mu}{ι bW c:Io}{δ lI d:Nat->Prop}{w w' e:World}(h:Ext μ ι δ w bT bW lI w') (k:Ext bT bW lI w' a c d e):Ext μ ι δ w a c d e :=
 ⟨λi p h1=>k.mu i p (h.mu i p h1),λb o h1=>k.io b o (h.io b o h1),λb o h1=>(k.cell b o (h.io b o h1)).trans (h.cell b o h1),Nat.le_trans h.size k.size,λr h1=>k.de r (h.de r h1)⟩
section
variable {cmp:Nat->bp->Code->Prop}{w0:Bs}{μ bT:Mu}{ι bW:Io}{δ lI:Nat->Prop}{w w':World}{s s':St}
theorem Rv.ext (h:Ext μ ι δ w bT bW lI w') {v:LV}{x:Value}(a:Rv μ ι w v x):Rv bT bW w' v x:=a.mono h.cell h.mu h.io
theorem Re.ext (h:Ext μ ι δ w bT bW lI w') {e:Env}{t:Array Value}(a:Re μ ι w e t):Re bT bW w' e t:=λi=>(a i).ext h
theorem Re.put {e:Env}{a:Act}(h:Re μ ι w e a.tmps) {d:Option Nat}(b:∀ t,d=some t->t<a.tmps.size) {v:LV}{x:Value}(c:Rv μ ι w v x) :
 Re μ ι w (Env.put e d v) (a.put d x).tmps:=by
 cases d with
 | none=>exact h
 | some d=>
   intro t;have f:=b d rfl;simp only[Env.au,Env.qg,Act.put];by_cases e:t=d
   ·subst e;simp[gF,f,c]
   ·rw[if_neg e];have:=h t;simpa[gF,Array.getElem?_setIfInBounds,Ne.symm e] using this
@[simp] theorem Act.xG (a:Act) (d:Option Nat) (x:Value):(a.put d x).tmps.size=a.tmps.size:=by
  cases d<;>simp[Act.put]
@[simp] theorem Act.lY (a:Act) (d:Option Nat) (x:Value):(a.put d x).defers=a.defers:=by
  cases d<;>simp[Act.put]
end
@[simp] theorem jl (b o n:Nat):(⟨b,o,none⟩:Addr).add n=⟨b,o+n,none⟩:=by
  unfold Addr.add;split
  ·next h=>subst h;rfl
  ·rfl
section
variable {P:Program}{w w':World}{w0:Bs}{μ bT:Mu}{ι bW:Io}{δ lI:Nat->Prop}{s s':St}{cmp:Nat->bp->Code->Prop}
theorem Di {a:Addr}{v:Value}(h:w.cell? a=some v):(load a).run P w = .ok v w:=by simp[h]
theorem run_loadCellsFrom (b o:Nat):∀ (vs:List Value) (i:Nat) (acc:Array Value),(∀ j,j<vs.length->w.cell? ⟨b,o+(i+j),none⟩=some (vs.getD j undef)) ->
 (loadCellsFrom ⟨b,o,none⟩ i vs.length acc).run P w = .ok (acc++vs.toArray) w:=by
 intro vs;induction vs with
 | nil=>intro i acc _;simp[loadCellsFrom]
 | cons v vs ih=>
   intro i acc h;have h0:=h 0 (by simp);simp only[Nat.add_zero,List.getD_cons_zero]at h0;simp only[List.length_cons,loadCellsFrom,Sem.run_bind,jl,Di h0,Result.andThen_ok];rw[ih (i+1) (acc.push v) (λj a=>by have:=h (j+1) (by simpa using a);simp only[List.getD_cons_succ]at this;rw[<- this];congr 2;omega)];simp
theorem run_loadCells (b o:Nat) (vs:List Value) (h:∀ j,j<vs.length->w.cell? ⟨b,o+j,none⟩=some (vs.getD j undef)) :
 (loadCells ⟨b,o,none⟩ vs.length).run P w = .ok vs.toArray w:=by
 have:=run_loadCellsFrom (P:=P) (w:=w) b o vs 0 #[] (λj a=>by rw[Nat.zero_add];exact h j a);simpa[loadCells] using this
structure uv (b o:Nat) (vs:List Value) (w w':World):Prop where
  os:w'.os=w.os
  tape:w'.tape=w.tape
  output:w'.output=w.output
  size:w'.heap.size=w.heap.size
  block:∀ k,k≠b->w'.heap[k]? = w.heap[k]?
  KX:∀ i,i<vs.length->w'.cell? ⟨b,o+i,none⟩=some (vs.getD i undef)
  xS:∀ c:Addr,(c.block≠b∨c.off<o∨o+vs.length<=c.off)->w'.cell? c=w.cell? c
  frozen:∀ c,w'.frozen? c=w.frozen? c
  shape:∀ k,w'.shape? k=w.shape? k
theorem xu (a:Addr) (v:Value) (k:Nat):(w.setCell a v).shape? k=w.shape? k:=by
 simp only[World.setCell,World.shape?,Array.getElem?_modify];by_cases h:a.block=k
 ·subst h;cases b:w.heap[a.block]? with
  | none=>simp
  | some x=>
    cases x<;>simp;split<;>simp
 ·simp[h]
theorem heap_setCell_other (a:Addr) (v:Value) (k:Nat) (h:k≠a.block):(w.setCell a v).heap[k]? = w.heap[k]? := Below.heap_setCell w a v k h
theorem fQ (b o:Nat):∀ (vs:List Value) (i:Nat) (w:World),(∀ v∈vs,v.oneCell'=true) ->
 (∀ j,j<vs.length->∃ v,w.cell? ⟨b,o+(i+j),none⟩=some v)->(∀ j,j<vs.length->w.frozen? ⟨b,o+(i+j),none⟩=false) ->
 ∃ w',(storeCells ⟨b,o,none⟩ vs i).run P w = .ok () w'/\uv b (o+i) vs w w':=by
 intro vs;induction vs with
 | nil=>
   intro i w _ _ _;exact⟨w,rfl,rfl,rfl,rfl,rfl,λ_ _=>rfl,λi h=>by simp at h,λ_ _=>rfl,λ_=>rfl,λ_=>rfl⟩
 | cons v vs ih=>
   intro i w h1 f g;obtain⟨u,a⟩:=f 0 (by simp);have l:=g 0 (by simp);simp only[Nat.add_zero]at a l;have p:(store ⟨b,o+i,none⟩ v).run P w = .ok () (w.setCell ⟨b,o+i,none⟩ v):=by
    rw[run_store P w _ v .plain (h1 v (by simp))];simp[a,l]
   obtain⟨w',q,W⟩:=ih (i+1) (w.setCell ⟨b,o+i,none⟩ v) (λv h=>h1 v (by simp[h]))
    (λj d=>by
     obtain⟨u,a⟩:=f (j+1) (by simpa using d);refine⟨u,?_⟩;rw[World.cell?_setCell_other]
     ·rw[<- a];congr 2;omega
     ·intro e;simp only[Addr.mk.injEq]at e;omega)
    (λj d=>by
     rw[World.frozen?_setCell,<- g (j+1) (by simpa using d)];congr 2;omega)
   refine⟨w',by simp only[storeCells,Sem.run_bind,jl,p,Result.andThen_ok,q],W.os.trans rfl,W.tape.trans rfl,W.output.trans rfl,by rw[W.size];simp,
    λk m=>(W.block k m).trans (heap_setCell_other _ _ _ (by simpa using m)),?_,?_,λc=>by rw[W.frozen,World.frozen?_setCell],λk=>by rw[W.shape,xu]⟩
   ·intro j d;cases j with
    | zero=>
      rw[W.xS _ (.inr (.inl (by simp)))];simpa using World.cell?_setCell_same w _ v a
    | succ j=>
      have:=W.KX j (by simpa using d);rw[List.getD_cons_succ,<- this];congr 2;omega
   ·intro c n;rw[W.xS c (by simp only[List.length_cons]at n;omega)];apply World.cell?_setCell_other;rintro rfl;simp at n;omega
theorem Below.wrote {B:Nat}{w0 w w':World}{b o:Nat}{vs:List Value}(h:Below B w0 w) (W:uv b o vs w w') (a:B<=b):Below B w0 w' :=
 h.trans ⟨W.os,W.tape,W.output,Nat.le_of_eq W.size.symm,λk c=>W.block k om⟩
theorem uj {b o:Nat}{v:Value}(h:w.cell? ⟨b,o,none⟩=some v):b<w.heap.size:=World.block_lt_of_cell? w ⟨b,o,none⟩ h
theorem gq {b o:Nat}(h:w'.heap[b]? = w.heap[b]?):w'.cell? ⟨b,o,none⟩=w.cell? ⟨b,o,none⟩:=World.cell?_of_block (w:=w) h
theorem lD {b o:Nat}(h:w'.heap[b]? = w.heap[b]?):w'.frozen? ⟨b,o,none⟩=w.frozen? ⟨b,o,none⟩:=World.frozen?_of_block (w:=w) h
structure cR (w w':World):Prop where
  os:w'.os=w.os
  tape:w'.tape=w.tape
  output:w'.output=w.output
  size:w.heap.size<=w'.heap.size
  block:∀ k,k<w.heap.size->w'.heap[k]? = w.heap[k]?
theorem cR.refl (w:World):cR w w:=⟨rfl,rfl,rfl,Nat.le_refl _,λ_ _=>rfl⟩
theorem cR.trans {w w' a:World}(h:cR w w') (k:cR w' a):cR w a :=
 ⟨k.os.trans h.os,k.tape.trans h.tape,k.output.trans h.output,Nat.le_trans h.size k.size,λi b=>(k.block i (Nat.lt_of_lt_of_le b h.size)).trans (h.block i b)⟩
theorem cR.drew (w:World):cR w { w with drawn:=w.drawn+1 } := ⟨rfl,rfl,rfl,Nat.le_refl _,λ_ _=>rfl⟩
theorem cR.alloc (w:World) (o:Obj):cR w { w with heap:=w.heap.push o } :=
 ⟨rfl,rfl,rfl,by simp,λk a=>Below.heap_alloc w o k a⟩
theorem cR.NJ {w w':World}(h:Below w.heap.size w w'):cR w w':=⟨h.os,h.tape,h.output,h.size,h.block⟩
theorem cR.below {B:Nat}{w0:World}(h:cR w w') (a:Below B w0 w) (hB:B<=w.heap.size):Below B w0 w' :=
 a.trans ⟨h.os,h.tape,h.output,h.size,λk b=>h.block k om⟩
theorem cR.cell (h:cR w w') {b o:Nat}{v:Value}(a:w.cell? ⟨b,o,none⟩=some v):w'.cell? ⟨b,o,none⟩=some v:=by
 rw[gq (h.block b (uj a)),a]
theorem Inv.hB (I:Inv cmp w0 μ ι δ s w):w0.heap.size<=w.heap.size:=I.below.size
theorem Inv.u7 (I:Inv cmp w0 μ ι δ s w) (h:cR w w'):∀ b o,ι b o->w'.cell? ⟨b,o,none⟩=w.cell? ⟨b,o,none⟩:=λb o c=>by
 obtain⟨v,a⟩:=I.io b o c;rw[a,h.cell a]
theorem Inv.eU (I:Inv cmp w0 μ ι δ s w) (h:cR w w'):Ext μ ι δ w μ ι δ w' :=
 ⟨λ_ _ h=>h,λ_ _ h=>h,I.u7 h,h.size,λ_ h=>h⟩
theorem iS.heap {b:Nat}(a:iS w b) (h:w'.heap[b]? = w.heap[b]?):iS w' b:=by
 obtain⟨⟨x,h0⟩,h1⟩:=a;exact⟨⟨x,by unfold World.shape? at *;rw[h];exact h0⟩,λo=>by rw[lD h];exact h1 o⟩
theorem iS.wrote {b b' o:Nat}{vs:List Value}(a:iS w b) (W:uv b' o vs w w'):iS w' b:=by
 obtain⟨⟨x,h0⟩,h1⟩:=a;exact⟨⟨x,by rw[W.shape];exact h0⟩,λo=>by rw[W.frozen];exact h1 o⟩
theorem Rb.same (I:Inv cmp w0 μ ι δ s w) (h:cR w w') {p:Place}(c:p.b<w.heap.size) {b:iC}(e:Rb cmp μ ι w p b):Rb cmp μ ι w' p b:=by
 have f:=I.u7 h;cases b with
 | cells m cs=>
   obtain⟨⟨x,h0⟩,h1,h2,h3,d,k,h6⟩:=e;refine⟨⟨x,by unfold World.shape? at *;rw[h.block p.b c];exact h0⟩,h1,λi a=>?_,λi=>by rw[lD (h.block p.b c)];exact h3 i,d,k,h6⟩;obtain⟨v,l,ho,n⟩:=h2 i a;exact⟨v,h.cell l,ho,λhl=>(n hl).mono f (λ_ _ h=>h) (λ_ _ h=>h)⟩
 | loop st u o ps as y=>
   obtain⟨L,q,h1,h2,h3,d⟩:=e;exact⟨L,(h.block p.b c).trans q,h1,h2,λt=>(h3 t).mono f (λ_ _ h=>h) (λ_ _ h=>h),d⟩
 | map z=>
   obtain⟨g,h1,h2,h3⟩:=e;exact⟨g,(h.block p.b c).trans h1,h2,λi a=>⟨(h3 i a).1,(h3 i a).2.1,(h3 i a).2.2.1.mono f (λ_ _ h=>h) (λ_ _ h=>h),(h3 i a).2.2.2.mono f (λ_ _ h=>h) (λ_ _ h=>h)⟩⟩
 | iter m A seen j=>
   obtain⟨h0,r,h1,h2⟩:=e;refine⟨h0,r,(h.block p.b c).trans h1,?_⟩;cases m with
   | none=>exact h2
   | some id=>obtain⟨pm,h3,d⟩:=h2;exact⟨pm,h3,d⟩
theorem Inv.same (I:Inv cmp w0 μ ι δ s w) (h:cR w w'):Inv cmp w0 μ ι δ s w' where
 below:=h.below I.below I.hB
 nX:=λid p hp=>let ⟨a,b,c⟩:=I.nX id p hp;⟨a,b,Nat.lt_of_lt_of_le c h.size⟩
 io:=λb o hi=>let ⟨v,hv⟩:=I.io b o hi;⟨v,h.cell hv⟩
 dD:=λid b p hb hp=>(I.dD id b p hb hp).same I h (I.nX id p hp).2.2
 sep:=I.sep
 defers:=λr hr=>let ⟨a,b⟩:=I.defers r hr;⟨a,by rw[h.block r (by have:=Array.getElem?_eq_some_iff.1 b;exact this.1)];exact b⟩
 low:=I.low
 own:=λb o hi hb=>(I.own b o hi hb).heap (h.block b (by obtain⟨v,hv⟩:=I.io b o hi;exact uj hv))
theorem Rb.mono {p:Place}{b:iC}(d:∀ id p,μ id=some p->bT id=some p) (e:∀ b o,ι b o->bW b o) (g:∀ b o,ι b o->w'.cell? ⟨b,o,none⟩=w.cell? ⟨b,o,none⟩)
 (c:w'.heap[p.b]? = w.heap[p.b]?) (k:b.owns=true->∀ i,bW p.b i->ι p.b i) (h:Rb cmp μ ι w p b):Rb cmp bT bW w' p b:=by
 cases b with
 | cells m cs=>
   obtain⟨⟨x,h0⟩,h1,h2,h3,f,n,h6⟩:=h;refine⟨⟨x,by unfold World.shape? at *;rw[c];exact h0⟩,h1,λi a=>?_,λi=>by rw[lD c];exact h3 i,λhm i a=>e _ _ (f hm i a),?_,?_⟩
   ·obtain⟨v,q,ho,r⟩:=h2 i a;exact⟨v,by rw[gq c];exact q,ho,λhl=>(r hl).mono g d e⟩
   ·intro hm i a hx;subst hm;exact n rfl i a (k rfl _ hx)
   ·intro hm i hl a hx;subst hm;exact h6 rfl i hl a (k rfl _ hx)
 | loop st A u ps as B=>
   obtain⟨L,y,h1,h2,h3,f⟩:=h;exact⟨L,c.trans y,h1,h2,λt=>(h3 t).mono g d e,f⟩
 | map C=>
   obtain⟨j,h1,h2,h3⟩:=h;exact⟨j,c.trans h1,h2,λi a=>⟨(h3 i a).1,(h3 i a).2.1,(h3 i a).2.2.1.mono g d e,(h3 i a).2.2.2.mono g d e⟩⟩
 | iter m D seen l=>
   obtain⟨h0,z,h1,h2⟩:=h;refine⟨h0,z,c.trans h1,?_⟩;cases m with
   | none=>exact h2
   | some id=>obtain⟨pm,h3,f⟩:=h2;exact⟨pm,d _ _ h3,f⟩
end
section
variable {P:Program}{w w':World}{w0:Bs}{μ bT:Mu}{ι bW:Io}{δ lI:Nat->Prop}{s s':St}{cmp:Nat->bp->Code->Prop}
def Mu.jT (μ:Mu) (n:Nat) (p:Place):Mu:=λid=>if id=n then some p else μ id
theorem Inv.mu_n (I:Inv cmp w0 μ ι δ s w):μ s.n=none:=by
 cases h:μ s.n with
 | none=>rfl
 | some p=>exact absurd (I.nX _ _ h).1 (Nat.lt_irrefl _)
theorem Inv.VN (I:Inv cmp w0 μ ι δ s w) (p:Place):∀ id q,μ id=some q->(μ.jT s.n p) id=some q:=λid q h=>by
 unfold Mu.jT;rw[if_neg (λe=>by have:=(I.nX id q h).1;omega)];exact h
theorem Inv.qh (I:Inv cmp w0 μ ι δ s w) (p:Place) (b:iC) (h1:w0.heap.size<=p.b) (h2:p.b<w.heap.size) (t:Rb cmp μ ι w p b)
 (ho:b.owns=true->∀ id b' o,s.get id=some b'->b'.owns=true->μ id=some o->o.b≠p.b) :
 Inv cmp w0 (μ.jT s.n p) ι δ (s.new b) w/\Ext μ ι δ w (μ.jT s.n p) ι δ w:=by
 have d:=I.VN p;have f:∀ {q:Place}{b:iC},Rb cmp μ ι w q b->Rb cmp (μ.jT s.n p) ι w q b:=λh=>h.mono d (λ_ _ h=>h) (λ_ _ _=>rfl) rfl (λ_ _ h=>h);refine⟨⟨I.below,?_,I.io,?_,?_,I.defers,I.low,I.own⟩,⟨d,λ_ _ h=>h,λ_ _ _=>rfl,Nat.le_refl _,λ_ h=>h⟩⟩
 ·intro id q a;unfold Mu.jT at a;split at a
  ·rename_i e;cases a;subst e;exact⟨by simp,h1,h2⟩
  ·have:=I.nX id q a;exact⟨by simp;omega,this.2⟩
 ·intro id b' q g a;rw[St.az]at g;unfold Mu.jT at a;split at g
  ·rename_i e;cases g;rw[if_pos e]at a;cases a;exact f t
  ·rename_i e;rw[if_neg e]at a;exact f (I.dD id b' q g a)
 ·intro id i r b2 p1 p2 g1 g2 j k m1 c e;rw[St.az]at g1 g2;unfold Mu.jT at m1 c;by_cases l:id=s.n<;>by_cases m:i=s.n
  ·omega
  ·rw[if_pos l]at g1 m1;rw[if_neg m]at g2 c;cases g1;cases m1;exact absurd e.symm (ho j i b2 p2 g2 k c)
  ·rw[if_neg l]at g1 m1;rw[if_pos m]at g2 c;cases g2;cases c;exact absurd e (ho k id r p1 g1 j m1)
  ·rw[if_neg l]at g1 m1;rw[if_neg m]at g2 c;exact I.sep id i r b2 p1 p2 g1 g2 j k m1 c e
theorem Inv.UI (I:Inv cmp w0 μ ι δ s w) (T:TypeId) (arr:Array Value) (cs:List LV) (hl:cs.length<=arr.size) (ho:∀ i,i<arr.size->(arr.getD i undef).oneCell'=true) (h:∀ i,i<cs.length->Rv μ ι w (cs.getD i .top) (arr.getD i undef)) :
 let w':World:={ w with heap:=w.heap.push (.cells arr T) };let p:Place:=⟨w.heap.size,0,arr.size⟩;Inv cmp w0 μ ι δ s w'/\Ext μ ι δ w μ ι δ w'/\Rb cmp μ ι w' p (.cells .mut cs)/\p.b<w'.heap.size/\(∀ id a,μ id=some a->a.b≠p.b):=by
 intro w' p;have hs:cR w w':=cR.alloc w _;have d:=I.same hs;have hx:=I.eU hs;have f:w'.heap.size=w.heap.size+1:=by simp[w']
 have g:∀ i,w'.cell? ⟨w.heap.size,i,none⟩=arr[i]? := λi=>World.cell?_alloc_new w arr T i;have j:Rb cmp μ ι w' p (.cells .mut cs):=by
  refine⟨⟨(T,arr.size),by simp[World.shape?,w',p]⟩,hl,λi c=>⟨arr.getD i undef,?_,ho i c,λk=>(h i k).ext hx⟩,λi=>?_,λhm=>absurd rfl hm,λ_ i _ hx=>?_,λhm=>by cases hm⟩
  ·show w'.cell? ⟨w.heap.size,0+i,none⟩=_;have l:i<arr.size:=c;rw[Nat.zero_add,g];simp[gF,l]
  ·show w'.frozen? ⟨w.heap.size,i,none⟩=false;exact World.frozen?_alloc_new w arr T i
  ·obtain⟨v,m⟩:=I.io _ _ hx;have:=uj m;exact absurd this (Nat.lt_irrefl _)
 refine⟨d,hx,j,by rw[f];exact Nat.lt_succ_self _,λid a hm e=>?_⟩;have:=(I.nX id a hm).2.2;have n:a.b=w.heap.size:=e;omega
theorem Inv.ny (I:Inv cmp w0 μ ι δ s w) (T:TypeId) (arr:Array Value) (cs:List LV) (hl:cs.length<=arr.size) (ho:∀ i,i<arr.size->(arr.getD i undef).oneCell'=true) (h:∀ i,i<cs.length->Rv μ ι w (cs.getD i .top) (arr.getD i undef)) :
 let w':World:={ w with heap:=w.heap.push (.cells arr T) };let p:Place:=⟨w.heap.size,0,arr.size⟩;Inv cmp w0 (μ.jT s.n p) ι δ (s.new (.cells .mut cs)) w'/\Ext μ ι δ w (μ.jT s.n p) ι δ w':=by
 intro w' p;obtain⟨a,hx,b,c,dH⟩:=I.UI T arr cs hl ho h;obtain⟨d,f⟩:=a.qh p (.cells .mut cs) I.hB c b (λ_ id j g _ _ hm e=>dH id g hm e);exact⟨d,hx.trans f⟩
theorem Inv.Wh (I:Inv cmp w0 μ ι δ s w) (T:TypeId) (arr:Array Value) :
 let w':World:={ w with heap:=w.heap.push (.cells arr T) };let bW:Io:=λb o=>ι b o∨(b=w.heap.size/\o<arr.size);Inv cmp w0 μ bW δ s w'/\Ext μ ι δ w μ bW δ w'/\(∀ i,w'.cell? ⟨w.heap.size,i,none⟩=arr[i]?):=by
 intro w' bW;have hs:cR w w':=cR.alloc w _;have a:=I.same hs;have hx:=I.eU hs;have f:∀ i,w'.cell? ⟨w.heap.size,i,none⟩=arr[i]? := λi=>World.cell?_alloc_new w arr T i;refine⟨⟨a.below,a.nX,?_,?_,a.sep,a.defers,λb o h c=>h.elim (λh=>I.low b o h c) (λh=>absurd I.hB om),λb o h c=>h.elim (λh=>a.own b o h c) (λh=>by obtain⟨rfl,_⟩:=h;exact⟨⟨(T,arr.size),by simp[World.shape?,w']⟩,λo=>World.frozen?_alloc_new w arr T o⟩)⟩,⟨λ_ _ h=>h,λ_ _ h=>.inl h,hx.cell,hx.size,λ_ h=>h⟩,f⟩
 ·rintro b o (h | ⟨rfl,h⟩)
  ·exact a.io b o h
  ·exact⟨arr[o],by rw[f];simp[h]⟩
 ·intro id b p c g;refine (a.dD id b p c g).mono (λ_ _ h=>h) (λ_ _ h=>.inl h) (λ_ _ _=>rfl) rfl (λ_ i d=>?_);rcases d with d | ⟨e,_⟩
  ·exact d
  ·have:=(I.nX id p g).2.2;omega
theorem Dd (new:List LV):∀ (cs:List LV) (off i:Nat),off+new.length<=cs.length->(splice cs off new).getD i .top=if off<=i/\i<off+new.length then new.getD (i - off) .top else cs.getD i .top:=by
 induction new with
 | nil=>intro cs off i _;rw[if_neg (by simp only[List.length_nil];omega)];rfl
 | cons a new ih=>
   intro cs off i h;simp only[List.length_cons]at h;rw[splice,ih _ _ _ (by simp;omega)];by_cases b:i=off
   ·subst b;rw[if_neg om,if_pos (by simp)];simp[gD,show i<cs.length from by omega]
   ·by_cases c:off<=i/\i<off+(new.length+1)
    ·rw[if_pos om,if_pos (by simp;omega),show i - off=(i - (off+1))+1 from by omega,List.getD_cons_succ]
    ·rw[if_neg om,if_neg (by simp;omega)];simp[gD,Ne.symm b]
theorem Rb.wrote {b o:Nat}{vs:List Value}(W:uv b o vs w w') (ho:∀ i,i<vs.length->(vs.getD i undef).oneCell'=true) {p:Place}{d:iC}(c:Rb cmp μ ι w p d)
 (a:∀ b o,ι b o->w'.cell? ⟨b,o,none⟩=w.cell? ⟨b,o,none⟩) (h:d.owns=true->p.b≠b):Rb cmp μ ι w' p d:=by
 cases d with
 | cells m cs=>
   by_cases e:p.b=b
   ·have hm:m = .ro:=by
     cases m<;>first | rfl | exact absurd e (h rfl)
    subst hm;obtain⟨⟨x,h0⟩,h1,h2,h3,g,u,h6⟩:=c;refine⟨⟨x,by rw[W.shape];exact h0⟩,h1,λi n=>?_,λi=>by rw[W.frozen];exact h3 i,g,(λhm=>by cases hm),(λhm=>by cases hm)⟩;obtain⟨v,j,k,q⟩:=h2 i n;by_cases f:i<cs.length
    ·have r:=g (by simp) i f;exact⟨v,(a _ _ r).trans j,k,λhl=>(q hl).mono a (λ_ _ h=>h) (λ_ _ h=>h)⟩
    ·by_cases KX:o<=p.off+i/\p.off+i<o+vs.length
     ·have:=W.KX (p.off+i - o) om;rw[show o+(p.off+i - o)=p.off+i from by omega,<- e]at this;exact⟨_,this,ho _ om,λhl=>absurd hl f⟩
     ·exact⟨v,(W.xS _ (by simp only;omega)).trans j,k,λhl=>absurd hl f⟩
   ·exact c.mono (λ_ _ h=>h) (λ_ _ h=>h) a (W.block _ e) (λ_ _ h=>h)
 | loop st y t ps as z=>
   exact c.mono (λ_ _ h=>h) (λ_ _ h=>h) a (W.block _ (h rfl)) (λ_ _ h=>h)
 | map A=>
   exact c.mono (λ_ _ h=>h) (λ_ _ h=>h) a (W.block _ (h rfl)) (λ_ _ h=>h)
 | iter m B seen l=>
   exact c.mono (λ_ _ h=>h) (λ_ _ h=>h) a (W.block _ (h rfl)) (λ_ _ h=>h)
theorem xh {b o:Nat}{vs:List Value}(W:uv b o vs w w') (c:∀ i,i<vs.length->¬ ι b (o+i)):∀ b' a,ι b' a->w'.cell? ⟨b',a,none⟩=w.cell? ⟨b',a,none⟩:=by
 intro b' a d;refine W.xS _ ?_;by_cases e:b'=b
 ·subst e;right;by_cases h1:a<o
  ·exact .inl h1
  ·by_cases h2:o+vs.length<=a
   ·exact .inr h2
   ·exact absurd d (by have:=c (a - o) (by omega);rwa[show o+(a - o)=a from by omega]at this)
 ·exact .inl e
theorem Inv.write (I:Inv cmp w0 μ ι δ s w) {id:Nat}{cs:List LV}{p:Place}{off:Nat}(t:s.get id=some (.cells .mut cs)) (m:μ id=some p)
 (new:List LV) (vs:List Value) (hl:vs.length=new.length) (D:off+new.length<=cs.length) (E:∀ i,i<new.length->Rv μ ι w (new.getD i .top) (vs.getD i undef))
 (z:∀ i,i<vs.length->(vs.getD i undef).oneCell'=true) (W:uv p.b (p.off+off) vs w w') :
 Inv cmp w0 μ ι δ (s.put id (.cells .mut (splice cs off new))) w'/\Ext μ ι δ w μ ι δ w':=by
 have u:=I.dD id _ p t m;obtain⟨⟨x,h0⟩,h1,h2,h3,U,A,h6⟩:=u;have F:=I.nX id p m;have G:∀ i,i<vs.length->¬ ι p.b (p.off+off+i):=λi c=>by
  have:=A rfl (off+i) om;rwa[<- Nat.add_assoc]at this
 have n:=xh W G;have B:∀ {v x},Rv μ ι w v x->Rv μ ι w' v x:=λh=>h.mono n (λ_ _ h=>h) (λ_ _ h=>h);refine⟨⟨Below.wrote I.below W F.2.1,λi q d=>by have:=I.nX i q d;rw[W.size];exact this,?_,?_,?_,?_,I.low,λb o c u=>(I.own b o c u).wrote W⟩,
  ⟨λ_ _ h=>h,λ_ _ h=>h,n,Nat.le_of_eq W.size.symm,λ_ h=>h⟩⟩
 ·intro b o c;obtain⟨v,y⟩:=I.io b o c;exact⟨v,(n b o c).trans y⟩
 ·intro C g q l d;rw[St.ah]at l;split at l
  ·rename_i e;subst e;cases l;obtain rfl:p=q:=Option.some.inj (m.symm.trans d);refine⟨⟨x,by rw[W.shape];exact h0⟩,by rw[mD];exact h1,λi c=>?_,λi=>by rw[W.frozen];exact h3 i,λhm=>absurd rfl hm,A,λhm=>by cases hm⟩;obtain⟨v,y,H,J⟩:=h2 i c;rw[mD,Dd new cs off i D];by_cases KX:off<=i/\i<off+new.length
   ·have:=W.KX (i - off) om;rw[show p.off+off+(i - off)=p.off+i from by omega]at this;refine⟨_,this,z _ om,λ_=>?_⟩;rw[if_pos KX];exact B (E (i - off) om)
   ·refine⟨v,(W.xS _ (by simp only;omega)).trans y,H,λK=>?_⟩;rw[if_neg KX];exact B (J K)
  ·rename_i e;exact (I.dD C g q l d).wrote W z n (λho L=>e (I.sep C id g _ q p l t ho rfl d m L))
 ·intro i j V b2 p1 p2 g1 g2 M N m1 O e;rw[St.ah]at g1 g2;have f:∀ {k:Nat}{b:iC},(if k=id then some (iC.cells .mut (splice cs off new)) else s.get k)=some b->b.owns=true->∃ g,s.get k=some g/\g.owns=true:=by
   intro k b h ho;split at h
   ·rename_i e;subst e;exact⟨_,t,rfl⟩
   ·exact⟨b,h,ho⟩
  obtain⟨c1,Q,l1⟩:=f g1 M;obtain⟨c2,R,l2⟩:=f g2 N;exact I.sep i j c1 c2 p1 p2 Q R l1 l2 m1 O e
 ·intro r T;obtain⟨a,b⟩:=I.defers r T;refine⟨a,?_⟩;rw[W.block r ?_]
  ·exact b
  ·rintro rfl;simp[World.shape?,b]at h0
theorem Inv.congr (I:Inv cmp w0 μ ι δ s w) (a:s'.n=s.n) (h:∀ j,s'.get j=s.get j):Inv cmp w0 μ ι δ s' w:=
 ⟨I.below,λid p c=>by rw[a];exact I.nX id p c,I.io,λid b p d=>I.dD id b p (by rw[<- h];exact d),
  λi j e b2 p1 p2 g1 g2=>I.sep i j e b2 p1 p2 (by rw[<- h];exact g1) (by rw[<- h];exact g2),I.defers,I.low,I.own⟩
theorem Inv.place (I:Inv cmp w0 μ ι δ s w) (id:Nat) (v:id<s.n) (x:μ id=none) (p:Place) (b:iC) (l:s.get id=some b) (h1:w0.heap.size<=p.b) (h2:p.b<w.heap.size)
 (y:Rb cmp μ ι w p b) (ho:b.owns=true->∀ j b' t,s.get j=some b'->b'.owns=true->μ j=some t->t.b≠p.b) :
 Inv cmp w0 (μ.jT id p) ι δ s w/\Ext μ ι δ w (μ.jT id p) ι δ w:=by
 have d:∀ j q,μ j=some q->(μ.jT id p) j=some q:=λj q h=>by
  unfold Mu.jT;rw[if_neg (λe=>by rw[e,x]at h;cases h)];exact h
 have f:∀ {q:Place}{b:iC},Rb cmp μ ι w q b->Rb cmp (μ.jT id p) ι w q b:=λh=>h.mono d (λ_ _ h=>h) (λ_ _ _=>rfl) rfl (λ_ _ h=>h);refine⟨⟨I.below,?_,I.io,?_,?_,I.defers,I.low,I.own⟩,⟨d,λ_ _ h=>h,λ_ _ _=>rfl,Nat.le_refl _,λ_ h=>h⟩⟩
 ·intro j q a;unfold Mu.jT at a;split at a
  ·rename_i e;cases a;subst e;exact⟨v,h1,h2⟩
  ·exact I.nX j q a
 ·intro j b' q m a;unfold Mu.jT at a;split at a
  ·rename_i e;cases a;subst e;rw[l]at m;cases m;exact f y
  ·exact f (I.dD j b' q m a)
 ·intro i j u b2 p1 p2 g1 g2 o r m1 c e;unfold Mu.jT at m1 c;by_cases g:i=id<;>by_cases k:j=id
  ·omega
  ·rw[if_pos g]at m1;rw[if_neg k]at c;cases m1;subst g;rw[l]at g1;cases g1;exact absurd e.symm (ho o j b2 p2 g2 r c)
  ·rw[if_neg g]at m1;rw[if_pos k]at c;cases c;subst k;rw[l]at g2;cases g2;exact absurd e (ho r i u p1 g1 o m1)
  ·rw[if_neg g]at m1;rw[if_neg k]at c;exact I.sep i j u b2 p1 p2 g1 g2 o r m1 c e
theorem Inv.RU (I:Inv cmp w0 μ ι δ s w) (b:iC):Inv cmp w0 μ ι δ (s.new b) w:=by
 have dH:∀ {id:Nat}{p:Place},μ id=some p->id≠s.n:=λh e=>by have:=(I.nX _ _ h).1;omega
 refine⟨I.below,λid p a=>⟨by have:=(I.nX id p a).1;simp;omega,(I.nX id p a).2⟩,I.io,?_,?_,I.defers,I.low,I.own⟩
 ·intro id f p c a;rw[St.az,if_neg (dH a)]at c;exact I.dD id f p c a
 ·intro i j g b2 p1 p2 g1 g2 k l m1 d e;rw[St.az,if_neg (dH m1)]at g1;rw[St.az,if_neg (dH d)]at g2;exact I.sep i j g b2 p1 p2 g1 g2 k l m1 d e
theorem Inv.addIo (I:Inv cmp w0 μ ι δ s w) (C:Io) (f:∀ b o,C b o->w0.heap.size<=b) (g:∀ b o,C b o->iS w b) (d:∀ b o,C b o->∃ v,w.cell? ⟨b,o,none⟩=some v)
 (j:∀ id b p,s.get id=some b->b.owns=true->μ id=some p->∀ o,¬ C p.b o) :
 Inv cmp w0 μ (λb o=>ι b o∨C b o) δ s w/\Ext μ ι δ w μ (λb o=>ι b o∨C b o) δ w:=by
 refine⟨⟨I.below,I.nX,?_,?_,I.sep,I.defers,λb o h a=>h.elim (λh=>I.low b o h a) (λh=>absurd (f b o h) om),λb o h a=>h.elim (λh=>I.own b o h a) (λh=>g b o h)⟩,⟨λ_ _ h=>h,λ_ _ h=>.inl h,λ_ _ _=>rfl,Nat.le_refl _,λ_ h=>h⟩⟩
 ·rintro b o (h | h)
  ·exact I.io b o h
  ·exact d b o h
 ·intro id b p a e;refine (I.dD id b p a e).mono (λ_ _ h=>h) (λ_ _ h=>.inl h) (λ_ _ _=>rfl) rfl (λho i c=>?_);rcases c with c | c
  ·exact c
  ·exact absurd c (j id b p a ho e i)
theorem Inv.F0 (I:Inv cmp w0 μ ι δ s w) {id:Nat}{m m':Md}{cs cs':List LV}{p:Place}(D:s.get id=some (.cells m cs)) (r:μ id=some p) (hl:cs'.length=cs.length)
 (hm:m'=m∨(m = .mut/\m' = .app)) (H:∀ i x,i<cs.length->w.cell? ⟨p.b,p.off+i,none⟩=some x->Rv μ ι w (cs'.getD i .top) x) :
 ∃ bW,Inv cmp w0 μ bW δ (s.put id (.cells m' cs')) w/\Ext μ ι δ w μ bW δ w/\(m'≠.mut->∀ i,i<cs.length->bW p.b (p.off+i)):=by
 have t:=I.dD id _ p D r;obtain⟨⟨x,h0⟩,h1,h2,h3,J,K,h6⟩:=t;have g:∀ (c:iC),c.owns=true->(m≠.ro)->∀ i j u b2 p1 p2,(s.put id c).get i=some u->(s.put id c).get j=some b2->u.owns=true->b2.owns=true->μ i=some p1->μ j=some p2->p1.b=p2.b->i=j:=by
  intro c _ y i j u b2 p1 p2 g1 g2 z A m1 E e;rw[St.ah]at g1 g2;have f:∀ {k:Nat}{b:iC},(if k=id then some c else s.get k)=some b->b.owns=true->∃ c,s.get k=some c/\c.owns=true:=by
   intro k b h ho;split at h
   ·rename_i e;subst e;exact⟨_,D,by cases m<;>first | rfl | exact absurd rfl y⟩
   ·exact⟨b,h,ho⟩
  obtain⟨c1,L,l1⟩:=f g1 z;obtain⟨c2,M,l2⟩:=f g2 A;exact I.sep i j c1 c2 p1 p2 L M l1 l2 m1 E e
 rcases hm with rfl | ⟨rfl,rfl⟩
 · -- N mode as it was
  refine⟨ι,⟨I.below,I.nX,I.io,?_,?_,I.defers,I.low,I.own⟩,Ext.refl _ _ _ _,J⟩
  ·intro B c q d n;rw[St.ah]at d;split at d
   ·rename_i e;subst e;cases d;obtain rfl:p=q:=Option.some.inj (r.symm.trans n);refine⟨⟨x,h0⟩,by rw[hl];exact h1,λi a=>?_,h3,by rw[hl];exact J,K,by rw[hl];exact h6⟩;obtain⟨v,l,F,_⟩:=h2 i a;exact⟨v,l,F,λG=>H i v (by rw[<- hl];exact G) l⟩
   ·exact I.dD B c q d n
  ·by_cases y:m' = .ro
   ·subst y;intro i j u b2 p1 p2 g1 g2 z A m1 E e;rw[St.ah]at g1 g2;split at g1
    ·cases g1;cases z
    ·split at g2
     ·cases g2;cases A
     ·exact I.sep i j u b2 p1 p2 g1 g2 z A m1 E e
   ·exact g (.cells m' cs') (by cases m'<;>first | rfl | exact absurd rfl y) y
 · -- frozen
  let C:Io:=λb o=>b=p.b/\∃ i,i<cs.length/\o=p.off+i;refine⟨λb o=>ι b o∨C b o,⟨I.below,I.nX,?_,?_,g (.cells .app cs') rfl (by simp),I.defers,λb o h t=>h.elim (λh=>I.low b o h t) (λh=>absurd (I.nX _ _ r).2.1 (by have:=h.1;omega)),λb o h t=>h.elim (λh=>I.own b o h t) (λh=>by obtain⟨rfl,_⟩:=h;exact⟨⟨x,h0⟩,h3⟩)⟩,⟨λ_ _ h=>h,λ_ _ h=>.inl h,λ_ _ _=>rfl,Nat.le_refl _,λ_ h=>h⟩,λ_ i a=>.inr ⟨rfl,i,a,rfl⟩⟩
  ·rintro b o (h | ⟨rfl,i,a,rfl⟩)
   ·exact I.io b o h
   ·obtain⟨v,l,_⟩:=h2 i (by omega);exact⟨v,l⟩
  ·intro B c q d n;rw[St.ah]at d;split at d
   ·rename_i e;subst e;cases d;obtain rfl:p=q:=Option.some.inj (r.symm.trans n);refine⟨⟨x,h0⟩,by rw[hl];exact h1,λi a=>?_,h3,λ_ i a=>.inr ⟨rfl,i,by rw[<- hl];exact a,rfl⟩,(λhm=>by cases hm),λ_ i Q a hx=>?_⟩
    ·obtain⟨v,l,F,_⟩:=h2 i a;exact⟨v,l,F,λG=>(H i v (by rw[<- hl];exact G) l).mono (λ_ _ _=>rfl) (λ_ _ h=>h) (λ_ _ h=>.inl h)⟩
    ·rcases hx with hx | ⟨_,j,R,e⟩
     ·exact K rfl i a hx
     ·omega
   ·rename_i e;refine (I.dD B c q d n).mono (λ_ _ h=>h) (λ_ _ h=>.inl h) (λ_ _ _=>rfl) rfl (λho i a=>?_);rcases a with a | ⟨O,_⟩
    ·exact a
    ·exact absurd (I.sep B id c _ q p d D ho rfl n r O) e
theorem Inv.ZD (I:Inv cmp w0 μ ι δ s w) {id:Nat}{m:Md}{cs cs':List LV}{p:Place}(g:s.get id=some (.cells m cs)) (k:μ id=some p) (h:cs'=[]∨(m = .app/\cs'=cs)) :
 Inv cmp w0 μ ι δ (s.put id (.cells .ro cs')) w/\(∀ j b p a,(s.put id (.cells .ro cs')).get j=some b->b.owns=true->m≠.ro->μ j=some p->μ id=some a->p.b≠a.b):=by
 obtain⟨⟨x,h0⟩,h1,h2,h3,t,F,h6⟩:=I.dD id _ p g k;refine⟨⟨I.below,I.nX,I.io,?_,?_,I.defers,I.low,I.own⟩,?_⟩
 ·intro u y q c d;rw[St.ah]at c;split at c
  ·rename_i e;subst e;cases c;obtain rfl:p=q:=Option.some.inj (k.symm.trans d);refine⟨⟨x,h0⟩,?_,λi f=>?_,h3,?_,(λhm=>by cases hm),(λhm=>by cases hm)⟩
   ·rcases h with rfl | ⟨_,rfl⟩
    ·simp
    ·exact h1
   ·obtain⟨v,z,A,B⟩:=h2 i f;refine⟨v,z,A,λl=>?_⟩;rcases h with rfl | ⟨_,rfl⟩
    ·simp at l
    ·exact B l
   ·intro _ i f;rcases h with rfl | ⟨hm,rfl⟩
    ·simp at f
    ·exact t (by rw[hm];simp) i f
  ·exact I.dD u y q c d
 ·intro i j C b2 p1 p2 g1 g2 n o m1 D e;rw[St.ah]at g1 g2;split at g1
  ·cases g1;cases n
  ·split at g2
   ·cases g2;cases o
   ·exact I.sep i j C b2 p1 p2 g1 g2 n o m1 D e
 ·intro j b q a gj r hm d E e;rw[St.ah]at gj;split at gj
  ·cases gj;cases r
  ·rename_i dH;exact dH (I.sep j id b _ q a gj g r (by cases m<;>first | rfl | exact absurd rfl hm) d E e)
theorem Inv.z6 (I:Inv cmp w0 μ ι δ s w) {b o:Nat}{vs:List Value}(W:uv b o vs w w') (hB:w0.heap.size<=b) (m:∀ i,i<vs.length->(vs.getD i undef).oneCell'=true) (n:∀ i,i<vs.length->¬ ι b (o+i))
 (hs:∃ x,w.shape? b=some x) (t:∀ j f p,s.get j=some f->f.owns=true->μ j=some p->p.b≠b):Inv cmp w0 μ ι δ s w'/\Ext μ ι δ w μ ι δ w':=by
 have e:=xh W n;refine⟨⟨Below.wrote I.below W hB,λi q u=>by have:=I.nX i q u;rw[W.size];exact this,λb o d=>?_,λid g p k l=>?_,I.sep,λr y=>?_,I.low,λb o d z=>(I.own b o d z).wrote W⟩,
  ⟨λ_ _ h=>h,λ_ _ h=>h,e,Nat.le_of_eq W.size.symm,λ_ h=>h⟩⟩
 ·obtain⟨v,A⟩:=I.io b o d;exact⟨v,(e b o d).trans A⟩
 ·exact (I.dD id g p k l).wrote W m e (λho=>t id g p k ho l)
 ·obtain⟨a,c⟩:=I.defers r y;refine⟨a,?_⟩;rw[W.block r ?_]
  ·exact c
  ·rintro rfl;obtain⟨x,h0⟩:=hs;simp[World.shape?,c]at h0
end
end Go.Pv
end
