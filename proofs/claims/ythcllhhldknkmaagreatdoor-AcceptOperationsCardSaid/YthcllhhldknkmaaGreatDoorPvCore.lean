/- Plain values, plain code: the data types of the second semantics and its operations, as functions. No program is in sight. -/
import Derived.AtR
import Derived.Laws.World
import Derived.Laws.Sem
import Derived.Below
section
namespace Go.Pv
open Go
inductive LV where
 | top
 | bool (b:Bool)
 | int (k:IntKind) (n:Int)
 | str (s:ByteArray)
 | agg (cs:List LV)
 | tup (vs:List LV)
 | nilp
 | pimm (cs:List LV) (off:Nat)
 | pref (id off:Nat)
 | nils
 | zs
 | simm (cs:List LV) (len:Nat)
 | sref (id off len esz:Nat)
 | fn (f:Fn) (first caps:List LV)
 | nilf
 | yld (id:Nat)
 | ifc (t:TypeId) (v:LV)
 | nili
 | nilm
 | mref (id:Nat)
 deriving Inhabited
inductive Tr (α:Type) where
 | nil
 | node (l:Tr α) (v:Option α) (r:Tr α)
def Tr.get {α:Type} : Tr α→Nat→Option α
 | .nil,_=>none
 | .node l v r,i=>if i=0 then v else if i % 2=1 then l.get (i / 2) else r.get (i / 2 - 1)
def Tr.left {α:Type} : Tr α→Tr α | .nil=>.nil | .node l _ _=>l
def Tr.here {α:Type} : Tr α→Option α | .nil=>none | .node _ v _=>v
def Tr.right {α:Type} : Tr α→Tr α | .nil=>.nil | .node _ _ r=>r
def Tr.setA {α:Type} (a:α):Nat→Tr α→Nat→Tr α
 | 0,t,_=>t
 | n+1,t,i=>
  if i=0 then .node t.left (some a) t.right
  else if i % 2=1 then .node (Tr.setA a n t.left (i / 2)) t.here t.right
  else .node t.left t.here (Tr.setA a n t.right (i / 2 - 1))
def Tr.set {α:Type} (t:Tr α) (i:Nat) (a:α):Tr α:=Tr.setA a (i+1) t i
theorem Tr.get_eq {α:Type} (t:Tr α) (i:Nat):t.get i=if i=0 then t.here else if i % 2=1 then t.left.get (i / 2) else t.right.get (i / 2 - 1):=by
 cases t with
 | nil=>simp [Tr.get,Tr.here,Tr.left,Tr.right]
 | node l v r=>simp [Tr.get,Tr.here,Tr.left,Tr.right]
theorem Tr.get_setA {α:Type} (a:α):∀ (n:Nat) (t:Tr α) (i j:Nat),i<n→(Tr.setA a n t i).get j=if j=i then some a else t.get j:=by
 intro n
 induction n with
 | zero=>intro t i j h;omega
 | succ n ih=>
  intro t i j h
  unfold Tr.setA
  by_cases h0:i=0
  ·subst h0
   simp only [if_true]
   rw [Tr.get_eq t j]
   by_cases hj:j=0
   ·simp [hj,Tr.get]
   ·simp [hj,Tr.get]
  ·by_cases h1:i % 2=1
   ·rw [if_neg h0,if_pos h1,Tr.get_eq t j]
    simp only [Tr.get]
    by_cases hj:j=0
    ·have:¬ (0=i):=by omega
     simp [hj,this]
    ·by_cases hj1:j % 2=1
     ·simp only [hj,hj1,if_false,if_true]
      rw [ih _ _ _ (by omega)]
      by_cases e:j=i
      ·subst e;simp
      ·rw [if_neg e,if_neg (by omega)]
     ·have:¬ (j=i):=by intro e;subst e;exact hj1 h1
      simp [hj,hj1,this]
   ·rw [if_neg h0,if_neg h1,Tr.get_eq t j]
    simp only [Tr.get]
    by_cases hj:j=0
    ·have:¬ (0=i):=by omega
     simp [hj,this]
    ·by_cases hj1:j % 2=1
     ·have:¬ (j=i):=by intro e;subst e;exact h1 hj1
      simp [hj,hj1,this]
     ·simp only [hj,hj1,if_false]
      rw [ih _ _ _ (by omega)]
      by_cases e:j=i
      ·subst e;simp
      ·rw [if_neg e,if_neg (by omega)]
@[simp] theorem Tr.get_set {α:Type} (t:Tr α) (i j:Nat) (a:α):(t.set i a).get j=if j=i then some a else t.get j:=
 Tr.get_setA a _ t i j (Nat.lt_succ_self i)
@[simp] theorem Tr.get_nil {α:Type} (i:Nat):(Tr.nil:Tr α).get i=none:=rfl
abbrev Env:=Tr LV
def Env.at (e:Env) (i:Nat):LV:=(Tr.get e i).getD .top
@[simp] theorem Env.at_set (e:Env) (i j:Nat) (v:LV):Env.at (Tr.set e i v) j=if j=i then v else Env.at e j:=by
 unfold Env.at;rw [Tr.get_set];split<;>rfl
@[simp] theorem Env.at_nil (i:Nat):Env.at .nil i = .top:=rfl
def Env.put (e:Env) (dst:Option Nat) (v:LV):Env:=match dst with | some d=>Tr.set e d v | none=>e
@[simp] theorem Env.put_some (e:Env) (d:Nat) (v:LV):Env.put e (some d) v=Tr.set e d v:=rfl
@[simp] theorem Env.put_none (e:Env) (v:LV):Env.put e none v=e:=rfl
inductive Opd where
 | t (i:Nat)
 | c (v:LV)
 deriving Inhabited
def Opd.ev (e:Env):Opd→LV
 | .t i=>e.at i
 | .c v=>v
@[simp] theorem Opd.ev_t (e:Env) (i:Nat):(Opd.t i).ev e=e.at i:=rfl
@[simp] theorem Opd.ev_c (e:Env) (v:LV):(Opd.c v).ev e=v:=rfl
inductive EqTy where
 | bool | int | str
 | ptr | slc | mp | fnc | ifc
 | struct (fs:List (Nat × Nat × EqTy))
 deriving Inhabited
inductive KTy where
 | int (k:IntKind)
 | str
 | st (es:List (Nat × Nat × EqTy))
 deriving Inhabited
inductive LOp where
 | mv (x:Opd)
 | pick (c a b:Opd)
 | box (im:Bool) (x:Opd)
 | alloc (zero:List LV)
 | build (zero:List LV) (parts:List (Nat × Nat × Opd))
 | bslice (esz len:Nat) (zero:List LV) (parts:List (Nat × Nat × Opd))
 | load (n:Option Nat) (x:Opd)
 | store (n:Nat) (a x:Opd)
 | nilchk (x:Opd)
 | bin (op:BinOp) (x y:Opd)
 | eq (neg:Bool) (t:EqTy) (x y:Opd)
 | un (op:UnOp) (x:Opd)
 | convInt (k:IntKind) (x:Opd)
 | convSame (x:Opd)
 | mkfn (f:Fn) (first caps:List Opd)
 | mkslice (esz bytes:Nat) (zero:List LV) (len cap:Opd)
 | slice (esz:Nat) (x:Opd) (lo hi:Option Opd)
 | sliceStr (x:Opd) (lo hi:Option Opd)
 | faddr (off:Nat) (x:Opd)
 | field (off:Nat) (n:Option Nat) (x:Opd)
 | iaddr (esz:Nat) (x i:Opd)
 | iaddrArr (esz len:Nat) (x i:Opd)
 | indexArr (esz len:Nat) (n:Option Nat) (x i:Opd)
 | indexStr (x i:Opd)
 | ext (x:Opd) (i:Nat)
 | lenSl (x:Opd)
 | lenStr (x:Opd)
 | lenArr (n:Nat)
 | append (esz bytes:Nat) (x y:Opd)
 | copy (esz:Nat) (x y:Opd)
 | sliceZ (x lo hi mx:Opd)
 | bytesStr (x:Opd)
 | mkmap (x:Option Opd)
 | mlook (kd:KTy) (zero:LV) (ok:Bool) (m k:Opd)
 | mupd (kd:KTy) (m k v:Opd)
 | lenMap (x:Opd)
 | capZ (x:Opd)
 | appz (esz bytes:Nat) (zero:List LV) (x n:Opd)
 | mrange (x:Opd)
 | mnext (x:Opd)
 | mentry (x:Opd)
 | minmax (isMax:Bool) (xs:List Opd)
 | clr (esz:Nat) (zero:List LV) (x:Opd)
 | sliceArr (esz n:Nat) (x:Opd) (lo hi:Option Opd)
 | call (f:Opd) (args:List Opd)
 | eqp (neg:Bool) (x y:Opd)
 deriving Inhabited
structure LOper where
 dst:Option Nat
 op:LOp
 guard:Option (Nat × Bool):=none
 chk:List (Nat × Option (Nat × Bool) × LOp):=[]
 /-- 'fl': the order is drawn here. -/
 fl:Bool:=false
 deriving Inhabited
inductive LCode where
 | skip
 | region (ops:List LOper)
 | alts (ls:List (List LOper))
 | seq (a b:LCode)
 | cond (c:Opd) (a b:LCode)
 | block (id:Nat) (c:LCode)
 | loop (c:LCode)
 | rangeFunc (f:Opd) (ps:List Nat) (assign body:LCode)
 | exit (id:Nat)
 | scope (c:LCode)
 | ret
 | bad
 deriving Inhabited
inductive LRes where
 | tmp (t:Nat)
 | cell (t:Nat) (n:Option Nat)
 deriving Inhabited
structure LFunc where
 ntmps:Nat
 results:List LRes
 body:LCode
 deriving Inhabited
inductive Jmp where
 | ret
 | exit (id:Nat)
inductive Md where
 | mut | app | ro
 deriving DecidableEq,Inhabited
inductive Blk where
 | cells (m:Md) (cs:List LV)
 | map (es:List (LV × LV))
 /-- a walk over a map: the map,how many entries it held at first,which have been seen,how many it held at the last step -/
 | iter (m:Option Nat) (n0:Nat) (seen:List Nat) (last:Nat)
 | loop (st:LoopState) (pend:Option Jmp) (env:Env) (ps:List Nat) (assign body:LCode)
structure St where
 n:Nat
 h:Tr Blk
def St.get (s:St) (id:Nat):Option Blk:=s.h.get id
def St.put (s:St) (id:Nat) (b:Blk):St:={ s with h:=s.h.set id b }
def St.new (s:St) (b:Blk):St:=⟨s.n+1,s.h.set s.n b⟩
def St.empty:St:=⟨0, .nil⟩
@[simp] theorem St.get_put (s:St) (id j:Nat) (b:Blk):(s.put id b).get j=if j=id then some b else s.get j:=Tr.get_set _ _ _ _
@[simp] theorem St.get_new (s:St) (j:Nat) (b:Blk):(s.new b).get j=if j=s.n then some b else s.get j:=Tr.get_set _ _ _ _
@[simp] theorem St.n_put (s:St) (id:Nat) (b:Blk):(s.put id b).n=s.n:=rfl
@[simp] theorem St.n_new (s:St) (b:Blk):(s.new b).n=s.n+1:=rfl
@[simp] theorem St.get_empty (j:Nat):St.empty.get j=none:=rfl
def isCell:LV→Bool
 | .agg _ | .top | .tup _=>false
 | _=>true
def cells? : LV→Option (List LV)
 | .agg cs=>if cs.all isCell then some cs else none
 | .top | .tup _=>none
 | v=>some [v]
def zeroVal:LV:=.tup []
def LV.closed:LV→Bool
 | .top=>false
 | .bool _ | .int .. | .str _ | .nilp | .nils | .zs | .nilf | .nili | .nilm=>true
 | .agg cs=>closedAll cs
 | .tup cs=>closedAll cs
 | .pimm cs _=>closedAll cs
 | .simm cs _=>closedAll cs
 | .fn _ a b=>closedAll a && closedAll b
 | .ifc _ v=>v.closed
 | .pref .. | .sref .. | .yld _ | .mref _=>false
where closedAll:List LV→Bool
 | []=>true
 | v::r=>v.closed && closedAll r
def frz : Nat → LV → St → Option (LV × St)
 | 0,_,_=>none
 | n + 1, v, s =>
  if v.closed then some (v,s) else
  match v with
  | .agg cs=>do let (cs,s) ← frzAll (frz n) cs s;some (.agg cs,s)
  | .tup cs=>do let (cs,s) ← frzAll (frz n) cs s;some (.tup cs,s)
  | .ifc t v=>do let (v,s) ← frz n v s;some (.ifc t v,s)
  | .fn f a b=>do let (a,s) ← frzAll (frz n) a s;let (b,s) ← frzAll (frz n) b s;some (.fn f a b,s)
  | .sref id off len esz=>
   match s.get id with
   | some (.cells m cs) =>
    if off+len*esz≤cs.length then do
     let (cs,s) ← frzAll (frz n) cs s
     some (.simm ((cs.drop off).take (len*esz)) len,s.put id (.cells (if m = .mut then .app else m) cs))
    else none
   | _=>none
  | .pref id off=>
   match s.get id with
   | some (.cells m cs) =>
    if off<cs.length then do
     let (cs,s) ← frzAll (frz n) cs s
     some (.pimm cs off,s.put id (.cells (if m = .mut then .app else m) cs))
    else none
   | _=>none
  | _=>none
where frzAll (f:LV→St→Option (LV × St)):List LV→St→Option (List LV × St)
 | [],s=>some ([],s)
 | v::r,s=>do let (v,s) ← f v s;let (r,s) ← frzAll f r s;some (v::r,s)
def frzDepth:Nat:=40
def frzTry (l:List LV) (s:St):List LV × St:=
 match frz.frzAll (frz frzDepth) l s with
 | some r=>r
 | none=>(l,s)
def splice:List LV→Nat→List LV→List LV
 | cs,_,[]=>cs
 | cs,off,v::vs=>splice (cs.set off v) (off+1) vs
theorem splice_length (vs:List LV):∀ (cs:List LV) (off:Nat),(splice cs off vs).length=cs.length:=by
 induction vs with
 | nil=>intros;rfl
 | cons v vs ih=>intro cs off;simp [splice,ih]
def mkVal (n:Option Nat) (cs:List LV) (off:Nat):Option LV:=
 match n with
 | none=>cs[off]?
 | some k=>if off+k≤cs.length then some (.agg ((cs.drop off).take k)) else none
def fillParts:List LV→List (Nat × Nat × LV)→Option (List LV)
 | cs,[]=>some cs
 | cs,(off,size,v)::r=>
  match cells? v with
  | some vs=>if vs.length=size∧off+size≤cs.length then fillParts (splice cs off vs) r else none
  | none=>none
def evParts (e:Env) (ls:List (Nat × Nat × Opd)):List (Nat × Nat × LV):=ls.map fun q=>(q.1,q.2.1,q.2.2.ev e)
def intBin (op:BinOp) (k:IntKind) (x y:Int):Option LV:=
 match op with
 | .add=>some (.int k (k.wrap (x+y)))
 | .sub=>some (.int k (k.wrap (x - y)))
 | .mul=>some (.int k (k.wrap (x*y)))
 | .quo=>if y=0 then none else some (.int k (k.wrap (x.tdiv y)))
 | .rem=>if y=0 then none else some (.int k (x.tmod y))
 | .and=>some (.int k (k.wrap ((BitVec.ofInt k.bits x &&& BitVec.ofInt k.bits y).toNat)))
 | .or=>some (.int k (k.wrap ((BitVec.ofInt k.bits x ||| BitVec.ofInt k.bits y).toNat)))
 | .xor=>some (.int k (k.wrap ((BitVec.ofInt k.bits x ^^^ BitVec.ofInt k.bits y).toNat)))
 | .andNot=>some (.int k (k.wrap ((BitVec.ofInt k.bits x &&& ~~~ BitVec.ofInt k.bits y).toNat)))
 | .eql=>some (.bool (x == y))
 | .neq=>some (.bool (x != y))
 | .lss=>some (.bool (x<y))
 | .leq=>some (.bool (x≤y))
 | .gtr=>some (.bool (x > y))
 | .geq=>some (.bool (x ≥ y))
 | _=>none
def strBin (op:BinOp) (x y:ByteArray):Option LV:=
 let eq:=x.toList == y.toList
 let lt:=Op.bytesLess x.toList y.toList
 match op with
 | .add=>if ((x.size+y.size:Nat):Int) > IntKind.i64.max then none else some (.str (x++y))
 | .eql=>some (.bool eq)
 | .neq=>some (.bool !eq)
 | .lss=>some (.bool lt)
 | .leq=>some (.bool (lt || eq))
 | .gtr=>some (.bool !(lt || eq))
 | .geq=>some (.bool !lt)
 | _=>none
def binLV (op:BinOp):LV→LV→Option LV
 | .int k x, .int k' y=>
  match op with
  | .shl=>if y<0 then none else some (.int k (k.wrap (x*2 ^ (min y.toNat k.bits))))
  | .shr=>if y<0 then none else some (.int k (x.fdiv (2 ^ (min y.toNat k.bits))))
  | _=>if k=k' then intBin op k x y else none
 | .str x, .str y=>strBin op x y
 | _,_=>none
def scEq:EqTy→LV→LV→Option Bool
 | .bool, .bool a, .bool b=>some (a == b)
 | .int, .int k a, .int k' b=>if k=k' then some (a == b) else none
 | .str, .str a, .str b=>some (a == b)
 | _,_,_=>none
def eqLV:EqTy→LV→LV→Option Bool
 | .ptr, .nilp, .nilp=>some true
 | .ptr, .nilp, .pimm .. | .ptr, .nilp, .pref .. | .ptr, .pimm .., .nilp | .ptr, .pref .., .nilp=>some false
 | .slc, .nils, .zs | .slc, .zs, .nils=>some false
 | .slc, .nils, .nils=>some true
 | .slc, .nils, .simm .. | .slc, .nils, .sref .. | .slc, .simm .., .nils | .slc, .sref .., .nils=>some false
 | .mp, .nilm, .nilm=>some true
 | .mp, .nilm, .mref _ | .mp, .mref _, .nilm=>some false
 | .fnc, .nilf, .nilf=>some true
 | .fnc, .nilf, .fn .. | .fnc, .fn .., .nilf=>some false
 | .ifc, .nili, .ifc .. | .ifc, .ifc .., .nili=>some false
 | .struct fs, .agg xs, .agg ys=>eqFields fs xs ys
 | t,x,y=>scEq t x y
where eqFields:List (Nat × Nat × EqTy)→List LV→List LV→Option Bool
 | [],_,_=>some true
 | (off,_,t)::r,xs,ys=>
  match xs[off]?,ys[off]? with
  | some x,some y=>
   match scEq t x y with
   | some true=>eqFields r xs ys
   | some false=>some false
   | none=>none
  | _,_=>none
def unLV (op:UnOp):LV→Option LV
 | .int k n=>match op with
  | .neg=>some (.int k (k.wrap (0 - n)))
  | _=>none
 | .bool b=>match op with | .not=>some (.bool !b) | _=>none
 | _=>none
def idxOf (len:Nat):LV→Option Nat
 | .int _ i=>if 0≤i∧i<len then some i.toNat else none
 | _=>none
def bndOf (d:Nat) (max:Nat):Option LV→Option Nat
 | none=>some d
 | some (.int _ i)=>if 0≤i∧i≤max then some i.toNat else none
 | some _=>none
def big:Nat:=2 ^ 32
def rep (n:Nat) (zero:List LV):List LV:=(List.replicate n zero).flatten
def lenLV:LV→Option Nat
 | .nils=>some 0
 | .zs=>some 0
 | .simm _ n=>some n
 | .sref _ _ n _=>some n
 | .str s=>some s.size
 | _=>none
def slLen:LV→Option Nat
 | .nils=>some 0
 | .zs=>some 0
 | .simm _ n=>some n
 | .sref _ _ n _=>some n
 | _=>none
def rowOf (s:St) (esz n:Nat):LV→Option (List LV)
 | .nils=>if n=0 then some [] else none
 | .zs=>if n=0 then some [] else none
 | .simm cs len=>if n≤len∧len*esz=cs.length then some (cs.take (n*esz)) else none
 | .sref id off len e=>
  match s.get id with
  | some (.cells _ cs)=>if e=esz∧n≤len∧off+len*esz≤cs.length then some ((cs.drop off).take (n*esz)) else none
  | _=>none
 | .str b=>if esz=1∧n≤b.size then some ((b.data.toList.take n).map fun x=>.int .u8 x.toNat) else none
 | _=>none
def appendLV (esz:Nat) (bytes:Nat) (x:LV) (new:List LV) (k:Nat) (s:St):Option (LV × St) :=
 match x with
 | .zs=>if k=0 then some (.zs,s) else if k*bytes≤big∧new.length=k*esz then some (.sref s.n 0 k esz,s.new (.cells .mut new)) else none
 | .nils=>if k=0 then some (.nils,s) else if k*bytes≤big∧new.length=k*esz then some (.sref s.n 0 k esz,s.new (.cells .mut new)) else none
 | .sref id off len e=>
  if e=esz then
  match s.get id with
  | some (.cells .mut cs) =>
   if off+len*esz≤cs.length∧(len+k)*bytes≤big∧new.length=k*esz then
    some (.sref s.n 0 (len+k) esz,⟨s.n+1,(s.h.set id (.cells .ro [])).set s.n (.cells .mut ((cs.drop off).take (len*esz)++new))⟩)
   else none
  | some (.cells .app cs) =>
   if off+len*esz=cs.length∧(len+k)*bytes≤big∧new.length=k*esz then
    some (.sref s.n 0 (len+k) esz,⟨s.n+1,(s.h.set id (.cells .ro cs)).set s.n (.cells .app ((cs.drop off).take (len*esz)++new))⟩)
   else none
  | _=>none
  else none
 | _=>none
def keyEq:LV→LV→Option Bool
 | .int k a, .int k' b=>if k=k' then some (a == b) else none
 | .str a, .str b=>some (decide (a.data.toList=b.data.toList))
 | _,_=>none
def isIntL:LV→Bool
 | .int .. => true
 | _=>false
def sameInts:List LV→List LV→Bool
 | [],[]=>true
 | .int k a::r, .int k' b::r'=>k == k' && a == b && sameInts r r'
 | _,_=>false
def keyOk:KTy→LV→Bool
 | .int k, .int k' _=>k' == k
 | .str, .str _=>true
 | .st es, .agg cs=>es.all (fun f=>f.1<cs.length) && cs.all isIntL
 | _,_=>false
def keyEqT:KTy→LV→LV→Option Bool
 | .st es, .agg xs, .agg ys=>
  match eqLV.eqFields es xs ys with
  | some true=>if sameInts xs ys then some true else none
  | r=>r
 | .st _,_,_=>none
 | _,x,y=>keyEq x y
def mfind (kd:KTy) (k:LV):List (LV × LV)→Nat→Option (Option (Nat × LV))
 | [],_=>some none
 | (k',v)::r,i=>
  match keyEqT kd k k' with
  | some true=>some (some (i,v))
  | some false=>mfind kd k r (i+1)
  | none=>none
def bytesOf:List LV→Option (List UInt8)
 | []=>some []
 | .int .u8 n::r=>do some (UInt8.ofNat n.toNat::(← bytesOf r))
 | _=>none
def minmaxLV (isMax:Bool):List LV→Option LV
 | .int k x::rest=>(go k x rest).map (.int k)
 | _=>none
where go (k:IntKind) (x:Int):List LV→Option Int
 | []=>some x
 | .int k' y::r=>if k=k' then go k (if isMax then (if y > x then y else x) else (if y<x then y else x)) r else none
 | _=>none
def wantedG:Option (Nat × Bool)→Env→Option Bool
 | none,_=>some true
 | some (d,want),e=>match e.at d with | .bool b=>some (b == want) | .tup _=>some false | _=>none
def LOp.run (o:LOp) (e:Env) (s:St):Option (LV × St) :=
 match o with
 | .mv x=>some (x.ev e,s)
 | .pick c a b=>match c.ev e with | .bool t=>some (if t then a.ev e else b.ev e,s) | _=>none
 | .box true x=>do
  let (v,s) ← frz frzDepth (x.ev e) s
  let cs ← cells? v
  if cs.length=0 then none else some (.pimm cs 0,s)
 | .box false x=>do
  let cs ← cells? (x.ev e)
  some (.pref s.n 0,s.new (.cells .mut cs))
 | .alloc z=>some (.pref s.n 0,s.new (.cells .mut z))
 | .build z ps=>do
  let cs ← fillParts z (evParts e ps)
  some (.agg cs,s)
 | .bslice esz len z ps=>do
  let cs ← fillParts (rep len z) (evParts e ps)
  some (.sref s.n 0 len esz,s.new (.cells .mut cs))
 | .load n x=>
  match x.ev e with
  | .pimm cs off=>do some (← mkVal n cs off,s)
  | .pref id off=>match s.get id with | some (.cells _ cs)=>do some (← mkVal n cs off,s) | _=>none
  | _=>none
 | .store n a x=>
  match a.ev e,cells? (x.ev e) with
  | .pref id off,some vs=>
   match s.get id with
   | some (.cells .mut cs)=>if vs.length=n∧off+n≤cs.length then some (zeroVal,s.put id (.cells .mut (splice cs off vs))) else none
   | _=>none
  | _,_=>none
 | .nilchk x=>match x.ev e with | .pimm c o=>some (.pimm c o,s) | .pref i o=>some (.pref i o,s) | .fn (.func f) a b=>some (.fn (.func f) a b,s) | .yld i=>some (.yld i,s) | _=>none
 | .bin op x y=>do some (← binLV op (x.ev e) (y.ev e),s)
 | .eq neg t x y=>do let b ← eqLV t (x.ev e) (y.ev e);some (.bool (if neg then !b else b),s)
 | .un op x=>do some (← unLV op (x.ev e),s)
 | .convInt k x=>match x.ev e with | .int _ n=>some (.int k (k.wrap n),s) | _=>none
 | .convSame x=>match x.ev e with | .str b=>some (.str b,s) | _=>none
 | .mkfn f a b=>some (.fn f (a.map (·.ev e)) (b.map (·.ev e)),s)
 | .mkslice esz bytes z l c=>
  match l.ev e,c.ev e with
  | .int _ l, .int _ c=>if 0≤l∧l≤c∧c*bytes≤big∧c≤big∧z.length=esz then some (.sref s.n 0 l.toNat esz,s.new (.cells .mut (rep l.toNat z))) else none
  | _,_=>none
 | .slice esz x lo hi=>
  match x.ev e with
  | .zs=>do
   let h ← bndOf 0 0 (hi.map (·.ev e));let l ← bndOf 0 h (lo.map (·.ev e))
   if l=0∧h=0 then some (.zs,s) else none
  | .nils=>do
   let h ← bndOf 0 0 (hi.map (·.ev e));let l ← bndOf 0 h (lo.map (·.ev e))
   if l=0∧h=0 then some (.nils,s) else none
  | .simm cs len=>do
   let h ← bndOf len len (hi.map (·.ev e));let l ← bndOf 0 h (lo.map (·.ev e))
   if cs.length=len*esz then some (.simm ((cs.drop (l*esz)).take ((h - l)*esz)) (h - l),s) else none
  | .sref id off len es=>do
   let h ← bndOf len len (hi.map (·.ev e));let l ← bndOf 0 h (lo.map (·.ev e))
   if es=esz then some (.sref id (off+l*esz) (h - l) esz,s) else none
  | _=>none
 | .sliceStr x lo hi=>
  match x.ev e with
  | .str b=>do
   let h ← bndOf b.size b.size (hi.map (·.ev e));let l ← bndOf 0 h (lo.map (·.ev e))
   some (.str (b.extract l h),s)
  | _=>none
 | .faddr off x=>match x.ev e with | .pimm cs o=>some (.pimm cs (o+off),s) | .pref i o=>some (.pref i (o+off),s) | _=>none
 | .field off n x=>match x.ev e with | .agg cs=>do some (← mkVal n cs off,s) | _=>none
 | .iaddr esz x i=>
  match x.ev e with
  | .simm cs len=>do let k ← idxOf len (i.ev e);some (.pimm cs (k*esz),s)
  | .sref id off len es=>do let k ← idxOf len (i.ev e);if es=esz then some (.pref id (off+k*esz),s) else none
  | _=>none
 | .iaddrArr esz len x i=>
  match x.ev e with
  | .pimm cs o=>do let k ← idxOf len (i.ev e);some (.pimm cs (o+k*esz),s)
  | .pref id o=>do let k ← idxOf len (i.ev e);some (.pref id (o+k*esz),s)
  | _=>none
 | .indexArr esz len n x i=>match x.ev e with | .agg cs=>do let k ← idxOf len (i.ev e);some (← mkVal n cs (k*esz),s) | _=>none
 | .indexStr x i=>match x.ev e with | .str b=>do let k ← idxOf b.size (i.ev e);some (.int .u8 ((b.data.getD k 0).toNat),s) | _=>none
 | .ext x i=>match x.ev e with | .tup vs=>do some (← vs[i]?,s) | _=>none
 | .lenSl x=>do some (.int .i64 (← slLen (x.ev e)),s)
 | .lenStr x=>match x.ev e with | .str b=>some (.int .i64 b.size,s) | _=>none
 | .lenArr n=>some (.int .i64 n,s)
 | .append esz bytes x y=>do
  let n ← lenLV (y.ev e)
  let new ← rowOf s esz n (y.ev e)
  let (new,s):=frzTry new s
  appendLV esz bytes (x.ev e) new n s
 | .copy esz x y=>do
  let n ← lenLV (y.ev e)
  match x.ev e with
  | .sref id off len es=>
   let k:=min n len
   let new ← rowOf s esz k (y.ev e)
   match s.get id with
   | some (.cells .mut cs)=>if es=esz∧off+len*esz≤cs.length then some (.int .i64 k,s.put id (.cells .mut (splice cs off new))) else none
   | _=>none
  | .nils=>some (.int .i64 0,s)
  | _=>none
 | .sliceZ x lo hi mx=>
  match lo.ev e,hi.ev e,mx.ev e,slLen (x.ev e) with
  | .int _ l, .int _ h, .int _ m,some len=>
   if l=h∧h=m∧0≤l∧l≤len then (match x.ev e with | .nils=>some (.nils,s) | .top=>none | _=>some (.zs,s)) else none
  | _,_,_,_=>none
 | .bytesStr x=>do
  let n ← slLen (x.ev e)
  let cs ← rowOf s 1 n (x.ev e)
  let bs ← bytesOf cs
  some (.str ⟨bs.toArray⟩,s)
 | .mkmap x=>
  match x with
  | none=>some (.mref s.n,s.new (.map []))
  | some y=>match y.ev e with | .int _ _=>some (.mref s.n,s.new (.map [])) | _=>none
 | .mlook kd zero ok m k=>
  if keyOk kd (k.ev e) then
  match m.ev e with
  | .nilm=>some (if ok then .tup [zero, .bool false] else zero,s)
  | .mref id=>
   match s.get id with
   | some (.map es)=>do
    let r ← mfind kd (k.ev e) es 0
    let (v,b):=match r with | some (_,v)=>(v,true) | none=>(zero,false)
    some (if ok then .tup [v, .bool b] else v,s)
   | _=>none
  | _=>none
  else none
 | .mupd kd m k v=>
  if keyOk kd (k.ev e) then
  match m.ev e with
  | .mref id=>
   match s.get id with
   | some (.map es)=>do
    let r ← mfind kd (k.ev e) es 0
    match r with
    | some (i,_)=>some (zeroVal,s.put id (.map (es.set i (k.ev e,v.ev e))))
    | none=>some (zeroVal,s.put id (.map (es++[(k.ev e,v.ev e)])))
   | _=>none
  | _=>none
  else none
 | .lenMap x=>
  match x.ev e with
  | .nilm=>some (.int .i64 0,s)
  | .mref id=>match s.get id with | some (.map es)=>some (.int .i64 es.length,s) | _=>none
  | _=>none
 | .capZ x=>match x.ev e with | .nils=>some (.int .i64 0,s) | .zs=>some (.int .i64 0,s) | _=>none
 | .appz esz bytes z x n=>
  match x.ev e,n.ev e with
  | .nils, .int _ k=>
   if k=0 then some (.nils,s)
   else if 0<k∧k*bytes≤big∧k≤big then some (.sref s.n 0 k.toNat esz,s.new (.cells .mut (rep k.toNat z))) else none
  | _,_=>none
 | .mrange x=>
  match x.ev e with
  | .nilm=>some (.pref s.n 0,s.new (.iter none 0 [] 0))
  | .mref id=>match s.get id with | some (.map es)=>some (.pref s.n 0,s.new (.iter (some id) es.length [] es.length)) | _=>none
  | _=>none
 | .mnext _=>none
 | .mentry x=>
  match x.ev e with
  | .pref id 0=>
   match s.get id with
   | some (.iter (some m) _ seen last) =>
    match s.get m with
    | some (.map es) =>
     match seen.getLast? with
     | some i=>if es.length=last∧i<es.length then some (.tup [(es.getD i default).1,(es.getD i default).2],s) else none
     | none=>none
    | _=>none
   | _=>none
  | _=>none
 | .minmax m xs=>do some (← minmaxLV m (xs.map (·.ev e)),s)
 | .sliceArr esz n x lo hi=>
  match x.ev e with
  | .pref id off=>do
   let h ← bndOf n n (hi.map (·.ev e));let l ← bndOf 0 h (lo.map (·.ev e))
   match s.get id with
   | some (.cells .mut cs)=>if off+n*esz≤cs.length then some (.sref id (off+l*esz) (h - l) esz,s) else none
   | _=>none
  | _=>none
 | .clr esz z x=>
  match x.ev e with
  | .nils=>some (zeroVal,s)
  | .zs=>some (zeroVal,s)
  | .sref id off len es=>
   if len=0 then some (zeroVal,s) else
   match s.get id with
   | some (.cells .mut cs)=>if es=esz∧z.length=esz∧off+len*esz≤cs.length then some (zeroVal,s.put id (.cells .mut (splice cs off (rep len z)))) else none
   | _=>none
  | _=>none
 | .call .. => none
 | .eqp .. => none
def agree:LV→LV→Bool
 | .int k a, .int k' b=>k == k' && a == b
 | .str a, .str b=>a.data.toList == b.data.toList
 | .bool a, .bool b=>a == b
 | .nils, .simm _ _=>false
 | .simm _ _, .nils=>false
 | .simm cs n, .simm cs' n'=>n == n' && agreeL cs cs'
 | _,_=>true
where agreeL:List LV→List LV→Bool
 | a::r,b::r'=>agree a b && agreeL r r'
 | _,_=>true
def isSlcL:LV→Bool
 | .nils | .zs | .simm _ _=>true
 | _=>false
def isScalL:LV→Bool
 | .int .. | .str _ | .bool _=>true
 | _=>false
def ownId:Nat:=4294967295
def ownG (G:List (Nat × List LV)):Bool:=G.any (fun x=>x.1 == ownId && x.2.isEmpty) && G.all fun x=>x.2.all isScalL
def Opd.tmps:Opd→List Nat
 | .t i=>[i]
 | .c _=>[]
def optTmps:Option Opd→List Nat
 | some x=>x.tmps
 | none=>[]
def LOp.tmps:LOp→List Nat
 | .mv x | .box _ x | .load _ x | .nilchk x | .un _ x | .convInt _ x | .convSame x | .faddr _ x | .field _ _ x | .ext x _ | .lenSl x | .lenStr x | .bytesStr x | .lenMap x | .capZ x | .mrange x | .mnext x | .mentry x=>x.tmps
 | .pick a b c=>a.tmps++b.tmps++c.tmps
 | .alloc _ | .lenArr _=>[]
 | .mkmap x=>optTmps x
 | .sliceZ a b c d=>a.tmps++b.tmps++c.tmps++d.tmps
 | .mlook _ _ _ a b=>a.tmps++b.tmps
 | .mupd _ a b c=>a.tmps++b.tmps++c.tmps
 | .build _ ps | .bslice _ _ _ ps=>ps.flatMap fun q=>q.2.2.tmps
 | .store _ a b | .bin _ a b | .eq _ _ a b | .iaddr _ a b | .iaddrArr _ _ a b | .indexArr _ _ _ a b | .indexStr a b | .append _ _ a b | .appz _ _ _ a b | .copy _ a b | .mkslice _ _ _ a b=>a.tmps++b.tmps
 | .mkfn _ a b=>a.flatMap (·.tmps)++b.flatMap (·.tmps)
 | .slice _ x a b | .sliceStr x a b | .sliceArr _ _ x a b=>x.tmps++optTmps a++optTmps b
 | .minmax _ xs=>xs.flatMap (·.tmps)
 | .clr _ _ x=>x.tmps
 | .call f as=>f.tmps++as.flatMap (·.tmps)
 | .eqp _ a b=>a.tmps++b.tmps
end Go.Pv
end
section
namespace Go.Pv
open Go Go.RowKit
structure Place where
 b:Nat
 off:Nat
 cap:Nat
abbrev Mu:=Nat→Option Place
abbrev Io:=Nat→Nat→Prop
inductive Rv (μ:Mu) (ι:Io) (w:World):LV→Value→Prop where
 | top (v:Value):Rv μ ι w .top v
 | bool (b:Bool):Rv μ ι w (.bool b) (.bool b)
 | int (k:IntKind) (n:Int):Rv μ ι w (.int k n) (.int k n)
 | str (s:ByteArray):Rv μ ι w (.str s) (.string s)
 | agg {cs:List LV} {vs:Array Value} (hl:vs.size=cs.length) (h:∀ i,i<cs.length→Rv μ ι w (cs.getD i .top) (vs.getD i undef)):Rv μ ι w (.agg cs) (.agg vs)
 | tup {cs:List LV} {vs:Array Value} (hl:vs.size=cs.length) (h:∀ i,i<cs.length→Rv μ ι w (cs.getD i .top) (vs.getD i undef)):Rv μ ι w (.tup cs) (.tuple vs)
 | nilp:Rv μ ι w .nilp (.pointer none)
 | pimm {cs:List LV} {off b o:Nat} (vs:Nat→Value) (hc:∀ i,i<cs.length→w.cell? ⟨b,o+i,none⟩=some (vs i))
   (hi:∀ i,i<cs.length→ι b (o+i)) (h1:∀ i,i<cs.length→(vs i).oneCell'=true) (h:∀ i,i<cs.length→Rv μ ι w (cs.getD i .top) (vs i)):Rv μ ι w (.pimm cs off) (.pointer (some ⟨b,o+off,none⟩))
 | pref {id off:Nat} {p:Place} (hp:μ id=some p):Rv μ ι w (.pref id off) (.pointer (some ⟨p.b,p.off+off,none⟩))
 | nils:Rv μ ι w .nils (.slice none 0 0)
 | zs (a:Addr):Rv μ ι w .zs (.slice (some a) 0 0)
 | simm {cs:List LV} {len b o cap:Nat} (vs:Nat→Value) (hc:∀ i,i<cs.length→w.cell? ⟨b,o+i,none⟩=some (vs i))
   (hi:∀ i,i<cs.length→ι b (o+i)) (h1:∀ i,i<cs.length→(vs i).oneCell'=true) (h:∀ i,i<cs.length→Rv μ ι w (cs.getD i .top) (vs i)) (hlc:len≤cap):Rv μ ι w (.simm cs len) (.slice (some ⟨b,o,none⟩) len cap)
 | sref {id off len esz cap:Nat} {p:Place} {off':Nat} (hp:μ id=some p) (hcap:off+cap*esz≤p.cap) (hlc:len≤cap) (had:cap≠0→off'=off) :
   Rv μ ι w (.sref id off len esz) (.slice (some ⟨p.b,p.off+off',none⟩) len cap)
 | fn {f:Fn} {a b:List LV} {va vb:Array Value} (hl:va.size=a.length) (hl':vb.size=b.length) (h:∀ i,i<a.length→Rv μ ι w (a.getD i .top) (va.getD i undef))
   (h':∀ i,i<b.length→Rv μ ι w (b.getD i .top) (vb.getD i undef)):Rv μ ι w (.fn f a b) (.func f va vb)
 | nilf:Rv μ ι w .nilf .nilFunc
 | yld {id:Nat} {p:Place} (hp:μ id=some p):Rv μ ι w (.yld id) (.func (.yield p.b) #[] #[])
 | ifc {t:TypeId} {v:LV} {x:Value} (h:Rv μ ι w v x):Rv μ ι w (.ifc t v) (.iface t x)
 | nili:Rv μ ι w .nili .nilIface
 | nilm:Rv μ ι w .nilm (.map none)
 | mref {id:Nat} {p:Place} (hp:μ id=some p):Rv μ ι w (.mref id) (.map (some p.b))
theorem Rv.mono {μ μ':Mu} {ι ι':Io} {w w':World} (hw:∀ b o,ι b o→w'.cell? ⟨b,o,none⟩=w.cell? ⟨b,o,none⟩)
  (hμ:∀ id p,μ id=some p→μ' id=some p) (hι:∀ b o,ι b o→ι' b o) {v:LV} {x:Value} (h:Rv μ ι w v x):Rv μ' ι' w' v x:=by
 induction h with
 | top v=>exact .top v
 | bool b=>exact .bool b
 | int k n=>exact .int k n
 | str s=>exact .str s
 | agg hl _ ih=>exact .agg hl ih
 | tup hl _ ih=>exact .tup hl ih
 | nilp=>exact .nilp
 | pimm vs hc hi h1 _ ih=>exact .pimm vs (fun i h=>(hw _ _ (hi i h)).trans (hc i h)) (fun i h=>hι _ _ (hi i h)) h1 ih
 | pref hp=>exact .pref (hμ _ _ hp)
 | nils=>exact .nils
 | zs a=>exact .zs a
 | simm vs hc hi h1 _ hlc ih=>exact .simm vs (fun i h=>(hw _ _ (hi i h)).trans (hc i h)) (fun i h=>hι _ _ (hi i h)) h1 ih hlc
 | sref hp hcap hlc had=>exact .sref (hμ _ _ hp) hcap hlc had
 | fn hl hl' _ _ ih ih'=>exact .fn hl hl' ih ih'
 | nilf=>exact .nilf
 | yld hp=>exact .yld (hμ _ _ hp)
 | ifc _ ih=>exact .ifc ih
 | nili=>exact .nili
 | nilm=>exact .nilm
 | mref hp=>exact .mref (hμ _ _ hp)
def Rs (μ:Mu) (ι:Io) (w:World) (cs:List LV) (vs:List Value):Prop:=vs.length=cs.length∧∀ i,i<cs.length→Rv μ ι w (cs.getD i .top) (vs.getD i undef)
def Re (μ:Mu) (ι:Io) (w:World) (e:Env) (tmps:Array Value):Prop:=∀ t,Rv μ ι w (e.at t) (tmps.getD t undef)
def Jmp.code:Jmp→Code
 | .ret=>.ret
 | .exit id=>.exit id
def isKeyL:LV→Bool
 | .int .. | .str _ | .agg _=>true
 | _=>false
def Rb (cmp:Nat→LCode→Code→Prop) (μ:Mu) (ι:Io) (w:World) (p:Place):Blk→Prop
 | .cells m cs=>(∃ x,w.shape? p.b=some x)∧cs.length≤p.cap ∧
   (∀ i,i<p.cap→∃ v,w.cell? ⟨p.b,p.off+i,none⟩=some v∧v.oneCell'=true∧(i<cs.length→Rv μ ι w (cs.getD i .top) v)) ∧
   (∀ o,w.frozen? ⟨p.b,o,none⟩=false) ∧
   (m≠.mut→∀ i,i<cs.length→ι p.b (p.off+i)) ∧
   (m = .mut→∀ i,i<p.cap→¬ ι p.b (p.off+i)) ∧
   (m = .app→∀ i,cs.length≤i→i<p.cap→¬ ι p.b (p.off+i))
 | .map es=>∃ arr,w.heap[p.b]? = some (.map arr es.length)∧arr.size=es.length∧∀ i,i<es.length→((arr.getD i default).born=i∧isKeyL (es.getD i default).1=true∧Rv μ ι w (es.getD i default).1 (arr.getD i default).key∧Rv μ ι w (es.getD i default).2 (arr.getD i default).val)
 | .iter m n0 seen last=>p.off=0∧∃ pb,w.heap[p.b]? = some (.mapIter pb n0 seen.toArray last)∧(match m with | none=>pb=none | some id=>∃ pm,μ id=some pm∧pb=some pm.b)
 | .loop st pend env ps assign body=>∃ L:Loop,w.heap[p.b]? = some (.loop L)∧L.state=st∧L.pending=pend.map Jmp.code∧Re μ ι w env L.tmps ∧
   (∀ i∈ps,i<L.tmps.size)∧L.params=ps.toArray∧cmp L.tmps.size assign L.assign∧cmp L.tmps.size body L.body
def Blk.owns:Blk→Bool
 | .cells .ro _=>false
 | _=>true
structure Bs where
 w:World
 κ:Io
def Bs.heap (w0:Bs):Array Obj:=w0.w.heap
def PlainB (w:World) (b:Nat):Prop:=(∃ x,w.shape? b=some x)∧∀ o,w.frozen? ⟨b,o,none⟩=false
structure Inv (cmp:Nat→LCode→Code→Prop) (w0:Bs) (μ:Mu) (ι:Io) (δ:Nat→Prop) (s:St) (w:World):Prop where
 below:Below w0.heap.size w0.w w
 dom:∀ id p,μ id=some p→id<s.n∧w0.heap.size≤p.b∧p.b<w.heap.size
 io:∀ b o,ι b o→∃ v,w.cell? ⟨b,o,none⟩=some v
 blk:∀ id b p,s.get id=some b→μ id=some p→Rb cmp μ ι w p b
 sep:∀ id id' b b' p p',s.get id=some b→s.get id'=some b'→b.owns=true→b'.owns=true→μ id=some p→μ id'=some p'→p.b=p'.b→id=id'
 defers:∀ r,δ r→w0.heap.size≤r∧w.heap[r]? = some (.deferred (some []))
 low:∀ b o,ι b o→b<w0.heap.size→w0.κ b o
 own:∀ b o,ι b o→w0.heap.size≤b→PlainB w b
structure Kept (μ:Mu) (s:St) (μ':Mu) (s':St):Prop where
 n:s.n≤s'.n
 get:∀ id,id<s.n→μ id=none→s'.get id=s.get id
 free:∀ id,id<s.n→μ id=none→μ' id=none
theorem Kept.refl (μ:Mu) (s:St):Kept μ s μ s:=⟨Nat.le_refl _,fun _ _ _=>rfl,fun _ _ h=>h⟩
structure Ext (μ:Mu) (ι:Io) (δ:Nat→Prop) (w:World) (μ':Mu) (ι':Io) (δ':Nat→Prop) (w':World):Prop where
 mu:∀ id p,μ id=some p→μ' id=some p
 io:∀ b o,ι b o→ι' b o
 cell:∀ b o,ι b o→w'.cell? ⟨b,o,none⟩=w.cell? ⟨b,o,none⟩
 size:w.heap.size≤w'.heap.size
 de:∀ r,δ r→δ' r
theorem Ext.refl (μ:Mu) (ι:Io) (δ:Nat→Prop) (w:World):Ext μ ι δ w μ ι δ w:=⟨fun _ _ h=>h,fun _ _ h=>h,fun _ _ _=>rfl,Nat.le_refl _,fun _ h=>h⟩
theorem Ext.trans {μ μ' μ'':Mu} {ι ι' ι'':Io} {δ δ' δ'':Nat→Prop} {w w' w'':World} (h:Ext μ ι δ w μ' ι' δ' w') (k:Ext μ' ι' δ' w' μ'' ι'' δ'' w''):Ext μ ι δ w μ'' ι'' δ'' w'' :=
 ⟨fun i p h1=>k.mu i p (h.mu i p h1),fun b o h1=>k.io b o (h.io b o h1),fun b o h1=>(k.cell b o (h.io b o h1)).trans (h.cell b o h1),Nat.le_trans h.size k.size,fun r h1=>k.de r (h.de r h1)⟩
section
variable {cmp:Nat→LCode→Code→Prop} {w0:Bs} {μ μ':Mu} {ι ι':Io} {δ δ':Nat→Prop} {w w':World} {s s':St}
theorem Rv.ext (h:Ext μ ι δ w μ' ι' δ' w') {v:LV} {x:Value} (hv:Rv μ ι w v x):Rv μ' ι' w' v x:=hv.mono h.cell h.mu h.io
theorem Re.ext (h:Ext μ ι δ w μ' ι' δ' w') {e:Env} {t:Array Value} (hv:Re μ ι w e t):Re μ' ι' w' e t:=fun i=>(hv i).ext h
theorem Rs.ext (h:Ext μ ι δ w μ' ι' δ' w') {e:List LV} {t:List Value} (hv:Rs μ ι w e t):Rs μ' ι' w' e t:=⟨hv.1,fun i hi=>(hv.2 i hi).ext h⟩
theorem Re.put {e:Env} {a:Act} (h:Re μ ι w e a.tmps) {d:Option Nat} (hd:∀ t,d=some t→t<a.tmps.size) {v:LV} {x:Value} (hv:Rv μ ι w v x) :
  Re μ ι w (Env.put e d v) (a.put d x).tmps:=by
 cases d with
 | none=>exact h
 | some d=>
  intro t
  have hd':=hd d rfl
  simp only [Env.put_some,Env.at_set,Act.put]
  by_cases e:t=d
  ·subst e
   simp [Array.getD_eq_getD_getElem?,hd',hv]
  ·rw [if_neg e]
   have:=h t
   simpa [Array.getD_eq_getD_getElem?,Array.getElem?_setIfInBounds,Ne.symm e] using this
@[simp] theorem Act.put_size (a:Act) (d:Option Nat) (x:Value):(a.put d x).tmps.size=a.tmps.size:=by
 cases d<;>simp [Act.put]
@[simp] theorem Act.put_defers' (a:Act) (d:Option Nat) (x:Value):(a.put d x).defers=a.defers:=by
 cases d<;>simp [Act.put]
end
end Go.Pv
end
section
namespace Go.Pv
open Go Go.RowKit
@[simp] theorem add_mk (b o n:Nat):(⟨b,o,none⟩:Addr).add n=⟨b,o+n,none⟩:=by
 unfold Addr.add;split
 ·next h=>subst h;rfl
 ·rfl
section
variable {P:Program} {w w':World} {w0:Bs} {μ μ':Mu} {ι ι':Io} {δ δ':Nat→Prop} {s s':St} {cmp:Nat→LCode→Code→Prop}
theorem run_load_at {a:Addr} {v:Value} (h:w.cell? a=some v):(load a).run P w = .ok v w:=by simp [h]
theorem run_loadCellsFrom (b o:Nat):∀ (vs:List Value) (i:Nat) (acc:Array Value),(∀ j,j<vs.length→w.cell? ⟨b,o+(i+j),none⟩=some (vs.getD j undef)) →
  (loadCellsFrom ⟨b,o,none⟩ i vs.length acc).run P w = .ok (acc++vs.toArray) w:=by
 intro vs
 induction vs with
 | nil=>intro i acc _;simp [loadCellsFrom]
 | cons v vs ih=>
  intro i acc h
  have h0:=h 0 (by simp)
  simp only [Nat.add_zero,List.getD_cons_zero] at h0
  simp only [List.length_cons,loadCellsFrom,Sem.run_bind,add_mk,run_load_at h0,Result.andThen_ok]
  rw [ih (i+1) (acc.push v) (fun j hj=>by have:=h (j+1) (by simpa using hj);simp only [List.getD_cons_succ] at this;rw [← this];congr 2;omega)]
  simp
theorem run_loadCells (b o:Nat) (vs:List Value) (h:∀ j,j<vs.length→w.cell? ⟨b,o+j,none⟩=some (vs.getD j undef)) :
  (loadCells ⟨b,o,none⟩ vs.length).run P w = .ok vs.toArray w:=by
 have:=run_loadCellsFrom (P:=P) (w:=w) b o vs 0 #[] (fun j hj=>by rw [Nat.zero_add];exact h j hj)
 simpa [loadCells] using this
structure Wrote (b o:Nat) (vs:List Value) (w w':World):Prop where
 os:w'.os=w.os
 tape:w'.tape=w.tape
 output:w'.output=w.output
 size:w'.heap.size=w.heap.size
 block:∀ k,k≠b→w'.heap[k]? = w.heap[k]?
 hit:∀ i,i<vs.length→w'.cell? ⟨b,o+i,none⟩=some (vs.getD i undef)
 miss:∀ c:Addr,(c.block≠b∨c.off<o∨o+vs.length≤c.off)→w'.cell? c=w.cell? c
 frozen:∀ c,w'.frozen? c=w.frozen? c
 shape:∀ k,w'.shape? k=w.shape? k
theorem shape?_setCell (a:Addr) (v:Value) (k:Nat):(w.setCell a v).shape? k=w.shape? k:=by
 simp only [World.setCell,World.shape?,Array.getElem?_modify]
 by_cases h:a.block=k
 ·subst h
  cases hh:w.heap[a.block]? with
  | none=>simp
  | some x=>
   cases x<;>simp
   split<;>simp
 ·simp [h]
theorem heap_setCell_other (a:Addr) (v:Value) (k:Nat) (h:k≠a.block):(w.setCell a v).heap[k]? = w.heap[k]? := Below.heap_setCell w a v k h
theorem run_storeCells (b o:Nat):∀ (vs:List Value) (i:Nat) (w:World),(∀ v∈vs,v.oneCell'=true) →
  (∀ j,j<vs.length→∃ v,w.cell? ⟨b,o+(i+j),none⟩=some v)→(∀ j,j<vs.length→w.frozen? ⟨b,o+(i+j),none⟩=false) →
  ∃ w',(storeCells ⟨b,o,none⟩ vs i).run P w = .ok () w'∧Wrote b (o+i) vs w w':=by
 intro vs
 induction vs with
 | nil=>
  intro i w _ _ _
  exact ⟨w,rfl,rfl,rfl,rfl,rfl,fun _ _=>rfl,fun i h=>by simp at h,fun _ _=>rfl,fun _=>rfl,fun _=>rfl⟩
 | cons v vs ih=>
  intro i w h1 hc hf
  obtain ⟨u,hu⟩:=hc 0 (by simp)
  have hf0:=hf 0 (by simp)
  simp only [Nat.add_zero] at hu hf0
  have hst:(store ⟨b,o+i,none⟩ v).run P w = .ok () (w.setCell ⟨b,o+i,none⟩ v):=by
   rw [run_store P w _ v .plain (h1 v (by simp))];simp [hu,hf0]
  obtain ⟨w',hw',W⟩:=ih (i+1) (w.setCell ⟨b,o+i,none⟩ v) (fun v h=>h1 v (by simp [h]))
   (fun j hj=>by
    obtain ⟨u,hu⟩:=hc (j+1) (by simpa using hj)
    refine ⟨u,?_⟩
    rw [World.cell?_setCell_other]
    ·rw [← hu];congr 2;omega
    ·intro e;simp only [Addr.mk.injEq] at e;omega)
   (fun j hj=>by
    rw [World.frozen?_setCell,← hf (j+1) (by simpa using hj)];congr 2;omega)
  refine ⟨w',by simp only [storeCells,Sem.run_bind,add_mk,hst,Result.andThen_ok,hw'],W.os.trans rfl,W.tape.trans rfl,W.output.trans rfl,by rw [W.size];simp,
   fun k hk=>(W.block k hk).trans (heap_setCell_other _ _ _ (by simpa using hk)),?_,?_,fun c=>by rw [W.frozen,World.frozen?_setCell],fun k=>by rw [W.shape,shape?_setCell]⟩
  ·intro j hj
   cases j with
   | zero=>
    rw [W.miss _ (.inr (.inl (by simp)))]
    simpa using World.cell?_setCell_same w _ v hu
   | succ j=>
    have:=W.hit j (by simpa using hj)
    rw [List.getD_cons_succ,← this];congr 2;omega
  ·intro c hc'
   rw [W.miss c (by simp only [List.length_cons] at hc';omega)]
   apply World.cell?_setCell_other
   rintro rfl
   simp at hc'
   omega
theorem Below.wrote {B:Nat} {w0 w w':World} {b o:Nat} {vs:List Value} (h:Below B w0 w) (W:Wrote b o vs w w') (hb:B≤b):Below B w0 w' :=
 h.trans ⟨W.os,W.tape,W.output,Nat.le_of_eq W.size.symm,fun k hk=>W.block k (by omega)⟩
theorem cell_lt {b o:Nat} {v:Value} (h:w.cell? ⟨b,o,none⟩=some v):b<w.heap.size:=World.block_lt_of_cell? w ⟨b,o,none⟩ h
theorem cell_of_heap {b o:Nat} (h:w'.heap[b]? = w.heap[b]?):w'.cell? ⟨b,o,none⟩=w.cell? ⟨b,o,none⟩:=World.cell?_of_block (w:=w) h
theorem frozen_of_heap {b o:Nat} (h:w'.heap[b]? = w.heap[b]?):w'.frozen? ⟨b,o,none⟩=w.frozen? ⟨b,o,none⟩:=World.frozen?_of_block (w:=w) h
structure Same (w w':World):Prop where
 os:w'.os=w.os
 tape:w'.tape=w.tape
 output:w'.output=w.output
 size:w.heap.size≤w'.heap.size
 block:∀ k,k<w.heap.size→w'.heap[k]? = w.heap[k]?
theorem Same.refl (w:World):Same w w:=⟨rfl,rfl,rfl,Nat.le_refl _,fun _ _=>rfl⟩
theorem Same.trans {w w' w'':World} (h:Same w w') (k:Same w' w''):Same w w'' :=
 ⟨k.os.trans h.os,k.tape.trans h.tape,k.output.trans h.output,Nat.le_trans h.size k.size,fun i hi=>(k.block i (Nat.lt_of_lt_of_le hi h.size)).trans (h.block i hi)⟩
theorem Same.drew (w:World):Same w { w with drawn:=w.drawn+1 } := ⟨rfl,rfl,rfl,Nat.le_refl _,fun _ _=>rfl⟩
theorem Same.alloc (w:World) (o:Obj):Same w { w with heap:=w.heap.push o } :=
 ⟨rfl,rfl,rfl,by simp,fun k hk=>Below.heap_alloc w o k hk⟩
theorem Same.of_below {w w':World} (h:Below w.heap.size w w'):Same w w':=⟨h.os,h.tape,h.output,h.size,h.block⟩
theorem Same.below {B:Nat} {w0:World} (h:Same w w') (hb:Below B w0 w) (hB:B≤w.heap.size):Below B w0 w' :=
 hb.trans ⟨h.os,h.tape,h.output,h.size,fun k hk=>h.block k (by omega)⟩
theorem Same.cell (h:Same w w') {b o:Nat} {v:Value} (hv:w.cell? ⟨b,o,none⟩=some v):w'.cell? ⟨b,o,none⟩=some v:=by
 rw [cell_of_heap (h.block b (cell_lt hv)),hv]
theorem Inv.hB (I:Inv cmp w0 μ ι δ s w):w0.heap.size≤w.heap.size:=I.below.size
theorem Inv.cell_same (I:Inv cmp w0 μ ι δ s w) (h:Same w w'):∀ b o,ι b o→w'.cell? ⟨b,o,none⟩=w.cell? ⟨b,o,none⟩:=fun b o hi=>by
 obtain ⟨v,hv⟩:=I.io b o hi
 rw [hv,h.cell hv]
theorem Inv.ext_same (I:Inv cmp w0 μ ι δ s w) (h:Same w w'):Ext μ ι δ w μ ι δ w' :=
 ⟨fun _ _ h=>h,fun _ _ h=>h,I.cell_same h,h.size,fun _ h=>h⟩
theorem PlainB.heap {b:Nat} (hp:PlainB w b) (h:w'.heap[b]? = w.heap[b]?):PlainB w' b:=by
 obtain ⟨⟨x,h0⟩,h1⟩:=hp
 exact ⟨⟨x,by unfold World.shape? at *;rw [h];exact h0⟩,fun o=>by rw [frozen_of_heap h];exact h1 o⟩
theorem PlainB.wrote {b b' o:Nat} {vs:List Value} (hp:PlainB w b) (W:Wrote b' o vs w w'):PlainB w' b:=by
 obtain ⟨⟨x,h0⟩,h1⟩:=hp
 exact ⟨⟨x,by rw [W.shape];exact h0⟩,fun o=>by rw [W.frozen];exact h1 o⟩
theorem Rb.same (I:Inv cmp w0 μ ι δ s w) (h:Same w w') {p:Place} (hp:p.b<w.heap.size) {b:Blk} (hb:Rb cmp μ ι w p b):Rb cmp μ ι w' p b:=by
 have hcell:=I.cell_same h
 cases b with
 | cells m cs=>
  obtain ⟨⟨x,h0⟩,h1,h2,h3,h4,h5,h6⟩:=hb
  refine ⟨⟨x,by unfold World.shape? at *;rw [h.block p.b hp];exact h0⟩,h1,fun i hi=>?_,fun i=>by rw [frozen_of_heap (h.block p.b hp)];exact h3 i,h4,h5,h6⟩
  obtain ⟨v,hv,ho,hr⟩:=h2 i hi
  exact ⟨v,h.cell hv,ho,fun hl=>(hr hl).mono hcell (fun _ _ h=>h) (fun _ _ h=>h)⟩
 | loop st pend env ps as bo=>
  obtain ⟨L,hL,h1,h2,h3,h4⟩:=hb
  exact ⟨L,(h.block p.b hp).trans hL,h1,h2,fun t=>(h3 t).mono hcell (fun _ _ h=>h) (fun _ _ h=>h),h4⟩
 | map es=>
  obtain ⟨arr,h1,h2,h3⟩:=hb
  exact ⟨arr,(h.block p.b hp).trans h1,h2,fun i hi=>⟨(h3 i hi).1,(h3 i hi).2.1,(h3 i hi).2.2.1.mono hcell (fun _ _ h=>h) (fun _ _ h=>h),(h3 i hi).2.2.2.mono hcell (fun _ _ h=>h) (fun _ _ h=>h)⟩⟩
 | iter m n0 seen last=>
  obtain ⟨h0,pb,h1,h2⟩:=hb
  refine ⟨h0,pb,(h.block p.b hp).trans h1,?_⟩
  cases m with
  | none=>exact h2
  | some id=>obtain ⟨pm,h3,h4⟩:=h2;exact ⟨pm,h3,h4⟩
theorem Inv.same (I:Inv cmp w0 μ ι δ s w) (h:Same w w'):Inv cmp w0 μ ι δ s w' where
 below:=h.below I.below I.hB
 dom:=fun id p hp=>let ⟨a,b,c⟩:=I.dom id p hp;⟨a,b,Nat.lt_of_lt_of_le c h.size⟩
 io:=fun b o hi=>let ⟨v,hv⟩:=I.io b o hi;⟨v,h.cell hv⟩
 blk:=fun id b p hb hp=>(I.blk id b p hb hp).same I h (I.dom id p hp).2.2
 sep:=I.sep
 defers:=fun r hr=>let ⟨a,b⟩:=I.defers r hr;⟨a,by rw [h.block r (by have:=Array.getElem?_eq_some_iff.1 b;exact this.1)];exact b⟩
 low:=I.low
 own:=fun b o hi hb=>(I.own b o hi hb).heap (h.block b (by obtain ⟨v,hv⟩:=I.io b o hi;exact cell_lt hv))
theorem Rb.mono {p:Place} {b:Blk} (hμ:∀ id p,μ id=some p→μ' id=some p) (hι:∀ b o,ι b o→ι' b o) (hcell:∀ b o,ι b o→w'.cell? ⟨b,o,none⟩=w.cell? ⟨b,o,none⟩)
  (hheap:w'.heap[p.b]? = w.heap[p.b]?) (hn:b.owns=true→∀ i,ι' p.b i→ι p.b i) (hb:Rb cmp μ ι w p b):Rb cmp μ' ι' w' p b:=by
 cases b with
 | cells m cs=>
  obtain ⟨⟨x,h0⟩,h1,h2,h3,h4,h5,h6⟩:=hb
  refine ⟨⟨x,by unfold World.shape? at *;rw [hheap];exact h0⟩,h1,fun i hi=>?_,fun i=>by rw [frozen_of_heap hheap];exact h3 i,fun hm i hi=>hι _ _ (h4 hm i hi),?_,?_⟩
  ·obtain ⟨v,hv,ho,hr⟩:=h2 i hi
   exact ⟨v,by rw [cell_of_heap hheap];exact hv,ho,fun hl=>(hr hl).mono hcell hμ hι⟩
  ·intro hm i hi hx;subst hm;exact h5 rfl i hi (hn rfl _ hx)
  ·intro hm i hl hi hx;subst hm;exact h6 rfl i hl hi (hn rfl _ hx)
 | loop st pend env ps as bo=>
  obtain ⟨L,hL,h1,h2,h3,h4⟩:=hb
  exact ⟨L,hheap.trans hL,h1,h2,fun t=>(h3 t).mono hcell hμ hι,h4⟩
 | map es=>
  obtain ⟨arr,h1,h2,h3⟩:=hb
  exact ⟨arr,hheap.trans h1,h2,fun i hi=>⟨(h3 i hi).1,(h3 i hi).2.1,(h3 i hi).2.2.1.mono hcell hμ hι,(h3 i hi).2.2.2.mono hcell hμ hι⟩⟩
 | iter m n0 seen last=>
  obtain ⟨h0,pb,h1,h2⟩:=hb
  refine ⟨h0,pb,hheap.trans h1,?_⟩
  cases m with
  | none=>exact h2
  | some id=>obtain ⟨pm,h3,h4⟩:=h2;exact ⟨pm,hμ _ _ h3,h4⟩
end
end Go.Pv
end
section
namespace Go.Pv
open Go Go.RowKit
section
variable {P:Program} {w w':World} {w0:Bs} {μ μ':Mu} {ι ι':Io} {δ δ':Nat→Prop} {s s':St} {cmp:Nat→LCode→Code→Prop}
def Mu.upd (μ:Mu) (n:Nat) (p:Place):Mu:=fun id=>if id=n then some p else μ id
theorem Inv.mu_n (I:Inv cmp w0 μ ι δ s w):μ s.n=none:=by
 cases h:μ s.n with
 | none=>rfl
 | some p=>exact absurd (I.dom _ _ h).1 (Nat.lt_irrefl _)
theorem Inv.upd_le (I:Inv cmp w0 μ ι δ s w) (p:Place):∀ id q,μ id=some q→(μ.upd s.n p) id=some q:=fun id q h=>by
 unfold Mu.upd
 rw [if_neg (fun e=>by have:=(I.dom id q h).1;omega)]
 exact h
theorem Inv.addBlk (I:Inv cmp w0 μ ι δ s w) (p:Place) (b:Blk) (h1:w0.heap.size≤p.b) (h2:p.b<w.heap.size) (hb:Rb cmp μ ι w p b)
  (ho:b.owns=true→∀ id b' p',s.get id=some b'→b'.owns=true→μ id=some p'→p'.b≠p.b) :
  Inv cmp w0 (μ.upd s.n p) ι δ (s.new b) w∧Ext μ ι δ w (μ.upd s.n p) ι δ w:=by
 have hle:=I.upd_le p
 have hRb:∀ {q:Place} {b:Blk},Rb cmp μ ι w q b→Rb cmp (μ.upd s.n p) ι w q b:=fun h=>h.mono hle (fun _ _ h=>h) (fun _ _ _=>rfl) rfl (fun _ _ h=>h)
 refine ⟨⟨I.below,?_,I.io,?_,?_,I.defers,I.low,I.own⟩,⟨hle,fun _ _ h=>h,fun _ _ _=>rfl,Nat.le_refl _,fun _ h=>h⟩⟩
 ·intro id q hq
  unfold Mu.upd at hq
  split at hq
  ·rename_i e;cases hq;subst e;exact ⟨by simp,h1,h2⟩
  ·have:=I.dom id q hq;exact ⟨by simp;omega,this.2⟩
 ·intro id b' q hb' hq
  rw [St.get_new] at hb'
  unfold Mu.upd at hq
  split at hb'
  ·rename_i e;cases hb';rw [if_pos e] at hq;cases hq;exact hRb hb
  ·rename_i e;rw [if_neg e] at hq;exact hRb (I.blk id b' q hb' hq)
 ·intro id id' b1 b2 p1 p2 g1 g2 o1 o2 m1 m2 e
  rw [St.get_new] at g1 g2
  unfold Mu.upd at m1 m2
  by_cases e1:id=s.n<;>by_cases e2:id'=s.n
  ·omega
  ·rw [if_pos e1] at g1 m1;rw [if_neg e2] at g2 m2;cases g1;cases m1
   exact absurd e.symm (ho o1 id' b2 p2 g2 o2 m2)
  ·rw [if_neg e1] at g1 m1;rw [if_pos e2] at g2 m2;cases g2;cases m2
   exact absurd e (ho o2 id b1 p1 g1 o1 m1)
  ·rw [if_neg e1] at g1 m1;rw [if_neg e2] at g2 m2
   exact I.sep id id' b1 b2 p1 p2 g1 g2 o1 o2 m1 m2 e
theorem Inv.rbNew (I:Inv cmp w0 μ ι δ s w) (T:TypeId) (arr:Array Value) (cs:List LV) (hl:cs.length≤arr.size) (ho:∀ i,i<arr.size→(arr.getD i undef).oneCell'=true) (h:∀ i,i<cs.length→Rv μ ι w (cs.getD i .top) (arr.getD i undef)) :
  let w':World:={ w with heap:=w.heap.push (.cells arr T) }
  let p:Place:=⟨w.heap.size,0,arr.size⟩
  Inv cmp w0 μ ι δ s w'∧Ext μ ι δ w μ ι δ w'∧Rb cmp μ ι w' p (.cells .mut cs)∧p.b<w'.heap.size∧(∀ id p',μ id=some p'→p'.b≠p.b):=by
 intro w' p
 have hs:Same w w':=Same.alloc w _
 have I':=I.same hs
 have hx:=I.ext_same hs
 have hsz:w'.heap.size=w.heap.size+1:=by simp [w']
 have hcell:∀ i,w'.cell? ⟨w.heap.size,i,none⟩=arr[i]? := fun i=>World.cell?_alloc_new w arr T i
 have hb:Rb cmp μ ι w' p (.cells .mut cs):=by
  refine ⟨⟨(T,arr.size),by simp [World.shape?,w',p]⟩,hl,fun i hi=>⟨arr.getD i undef,?_,ho i hi,fun hc=>(h i hc).ext hx⟩,fun i=>?_,fun hm=>absurd rfl hm,fun _ i _ hx=>?_,fun hm=>by cases hm⟩
  ·show w'.cell? ⟨w.heap.size,0+i,none⟩=_
   have hi':i<arr.size:=hi
   rw [Nat.zero_add,hcell]
   simp [Array.getD_eq_getD_getElem?,hi']
  ·show w'.frozen? ⟨w.heap.size,i,none⟩=false
   exact World.frozen?_alloc_new w arr T i
  ·obtain ⟨v,hv⟩:=I.io _ _ hx
   have:=cell_lt hv
   exact absurd this (Nat.lt_irrefl _)
 refine ⟨I',hx,hb,by rw [hsz];exact Nat.lt_succ_self _,fun id p' hm e=>?_⟩
 have:=(I.dom id p' hm).2.2
 have e':p'.b=w.heap.size:=e
 omega
theorem Inv.newCells (I:Inv cmp w0 μ ι δ s w) (T:TypeId) (arr:Array Value) (cs:List LV) (hl:cs.length≤arr.size) (ho:∀ i,i<arr.size→(arr.getD i undef).oneCell'=true) (h:∀ i,i<cs.length→Rv μ ι w (cs.getD i .top) (arr.getD i undef)) :
  let w':World:={ w with heap:=w.heap.push (.cells arr T) }
  let p:Place:=⟨w.heap.size,0,arr.size⟩
  Inv cmp w0 (μ.upd s.n p) ι δ (s.new (.cells .mut cs)) w'∧Ext μ ι δ w (μ.upd s.n p) ι δ w':=by
 intro w' p
 obtain ⟨I',hx,hb,hlt,hne⟩:=I.rbNew T arr cs hl ho h
 obtain ⟨I2,x2⟩:=I'.addBlk p (.cells .mut cs) I.hB hlt hb (fun _ id b' p' _ _ hm e=>hne id p' hm e)
 exact ⟨I2,hx.trans x2⟩
theorem Inv.newImm (I:Inv cmp w0 μ ι δ s w) (T:TypeId) (arr:Array Value) :
  let w':World:={ w with heap:=w.heap.push (.cells arr T) }
  let ι':Io:=fun b o=>ι b o∨(b=w.heap.size∧o<arr.size)
  Inv cmp w0 μ ι' δ s w'∧Ext μ ι δ w μ ι' δ w'∧(∀ i,w'.cell? ⟨w.heap.size,i,none⟩=arr[i]?):=by
 intro w' ι'
 have hs:Same w w':=Same.alloc w _
 have I':=I.same hs
 have hx:=I.ext_same hs
 have hcell:∀ i,w'.cell? ⟨w.heap.size,i,none⟩=arr[i]? := fun i=>World.cell?_alloc_new w arr T i
 refine ⟨⟨I'.below,I'.dom,?_,?_,I'.sep,I'.defers,fun b o h hb=>h.elim (fun h=>I.low b o h hb) (fun h=>absurd I.hB (by omega)),fun b o h hb=>h.elim (fun h=>I'.own b o h hb) (fun h=>by obtain ⟨rfl,_⟩:=h;exact ⟨⟨(T,arr.size),by simp [World.shape?,w']⟩,fun o=>World.frozen?_alloc_new w arr T o⟩)⟩,⟨fun _ _ h=>h,fun _ _ h=>.inl h,hx.cell,hx.size,fun _ h=>h⟩,hcell⟩
 ·rintro b o (h | ⟨rfl,h⟩)
  ·exact I'.io b o h
  ·exact ⟨arr[o],by rw [hcell];simp [h]⟩
 ·intro id b p hb hp
  refine (I'.blk id b p hb hp).mono (fun _ _ h=>h) (fun _ _ h=>.inl h) (fun _ _ _=>rfl) rfl (fun _ i hi=>?_)
  rcases hi with hi | ⟨e,_⟩
  ·exact hi
  ·have:=(I.dom id p hp).2.2;omega
theorem splice_getD (new:List LV):∀ (cs:List LV) (off i:Nat),off+new.length≤cs.length→(splice cs off new).getD i .top=if off≤i∧i<off+new.length then new.getD (i - off) .top else cs.getD i .top:=by
 induction new with
 | nil=>intro cs off i _;rw [if_neg (by simp only [List.length_nil];omega)];rfl
 | cons a new ih=>
  intro cs off i h
  simp only [List.length_cons] at h
  rw [splice,ih _ _ _ (by simp;omega)]
  by_cases e0:i=off
  ·subst e0
   rw [if_neg (by omega),if_pos (by simp)]
   simp [List.getD_eq_getElem?_getD,show i<cs.length from by omega]
  ·by_cases e1:off≤i∧i<off+(new.length+1)
   ·rw [if_pos (by omega),if_pos (by simp;omega),show i - off=(i - (off+1))+1 from by omega,List.getD_cons_succ]
   ·rw [if_neg (by omega),if_neg (by simp;omega)]
    simp [List.getD_eq_getElem?_getD,Ne.symm e0]
theorem Rb.wrote {b o:Nat} {vs:List Value} (W:Wrote b o vs w w') (ho:∀ i,i<vs.length→(vs.getD i undef).oneCell'=true) {p:Place} {bl:Blk} (hb:Rb cmp μ ι w p bl)
  (hcell:∀ b o,ι b o→w'.cell? ⟨b,o,none⟩=w.cell? ⟨b,o,none⟩) (h:bl.owns=true→p.b≠b):Rb cmp μ ι w' p bl:=by
 cases bl with
 | cells m cs=>
  by_cases e:p.b=b
  ·have hm:m = .ro:=by
    cases m<;>first | rfl | exact absurd e (h rfl)
   subst hm
   obtain ⟨⟨x,h0⟩,h1,h2,h3,h4,h5,h6⟩:=hb
   refine ⟨⟨x,by rw [W.shape];exact h0⟩,h1,fun i hi=>?_,fun i=>by rw [W.frozen];exact h3 i,h4,(fun hm=>by cases hm),(fun hm=>by cases hm)⟩
   obtain ⟨v,hv,hov,hr⟩:=h2 i hi
   by_cases hc:i<cs.length
   ·have hι:=h4 (by simp) i hc
    exact ⟨v,(hcell _ _ hι).trans hv,hov,fun hl=>(hr hl).mono hcell (fun _ _ h=>h) (fun _ _ h=>h)⟩
   ·by_cases hit:o≤p.off+i∧p.off+i<o+vs.length
    ·have:=W.hit (p.off+i - o) (by omega)
     rw [show o+(p.off+i - o)=p.off+i from by omega,← e] at this
     exact ⟨_,this,ho _ (by omega),fun hl=>absurd hl hc⟩
    ·exact ⟨v,(W.miss _ (by simp only;omega)).trans hv,hov,fun hl=>absurd hl hc⟩
  ·exact hb.mono (fun _ _ h=>h) (fun _ _ h=>h) hcell (W.block _ e) (fun _ _ h=>h)
 | loop st pend env ps as bo=>
  exact hb.mono (fun _ _ h=>h) (fun _ _ h=>h) hcell (W.block _ (h rfl)) (fun _ _ h=>h)
 | map es=>
  exact hb.mono (fun _ _ h=>h) (fun _ _ h=>h) hcell (W.block _ (h rfl)) (fun _ _ h=>h)
 | iter m n0 seen last=>
  exact hb.mono (fun _ _ h=>h) (fun _ _ h=>h) hcell (W.block _ (h rfl)) (fun _ _ h=>h)
theorem wrote_cell {b o:Nat} {vs:List Value} (W:Wrote b o vs w w') (hn:∀ i,i<vs.length→¬ ι b (o+i)):∀ b' o',ι b' o'→w'.cell? ⟨b',o',none⟩=w.cell? ⟨b',o',none⟩:=by
 intro b' o' hi
 refine W.miss _ ?_
 by_cases e:b'=b
 ·subst e
  right
  by_cases h1:o'<o
  ·exact .inl h1
  ·by_cases h2:o+vs.length≤o'
   ·exact .inr h2
   ·exact absurd hi (by have:=hn (o' - o) (by omega);rwa [show o+(o' - o)=o' from by omega] at this)
 ·exact .inl e
theorem Inv.write (I:Inv cmp w0 μ ι δ s w) {id:Nat} {cs:List LV} {p:Place} {off:Nat} (hg:s.get id=some (.cells .mut cs)) (hp:μ id=some p)
  (new:List LV) (vs:List Value) (hl:vs.length=new.length) (hin:off+new.length≤cs.length) (hr:∀ i,i<new.length→Rv μ ι w (new.getD i .top) (vs.getD i undef))
  (ho1:∀ i,i<vs.length→(vs.getD i undef).oneCell'=true) (W:Wrote p.b (p.off+off) vs w w') :
  Inv cmp w0 μ ι δ (s.put id (.cells .mut (splice cs off new))) w'∧Ext μ ι δ w μ ι δ w':=by
 have hb:=I.blk id _ p hg hp
 obtain ⟨⟨x,h0⟩,h1,h2,h3,h4,h5,h6⟩:=hb
 have hdom:=I.dom id p hp
 have hn:∀ i,i<vs.length→¬ ι p.b (p.off+off+i):=fun i hi=>by
  have:=h5 rfl (off+i) (by omega)
  rwa [← Nat.add_assoc] at this
 have hcell:=wrote_cell W hn
 have hmono:∀ {v x},Rv μ ι w v x→Rv μ ι w' v x:=fun h=>h.mono hcell (fun _ _ h=>h) (fun _ _ h=>h)
 refine ⟨⟨Below.wrote I.below W hdom.2.1,fun i q hq=>by have:=I.dom i q hq;rw [W.size];exact this,?_,?_,?_,?_,I.low,fun b o hi hb=>(I.own b o hi hb).wrote W⟩,
  ⟨fun _ _ h=>h,fun _ _ h=>h,hcell,Nat.le_of_eq W.size.symm,fun _ h=>h⟩⟩
 ·intro b o hi
  obtain ⟨v,hv⟩:=I.io b o hi
  exact ⟨v,(hcell b o hi).trans hv⟩
 ·intro id' b' q hb' hq
  rw [St.get_put] at hb'
  split at hb'
  ·rename_i e;subst e;cases hb'
   obtain rfl:p=q:=Option.some.inj (hp.symm.trans hq)
   refine ⟨⟨x,by rw [W.shape];exact h0⟩,by rw [splice_length];exact h1,fun i hi=>?_,fun i=>by rw [W.frozen];exact h3 i,fun hm=>absurd rfl hm,h5,fun hm=>by cases hm⟩
   obtain ⟨v,hv,hov,hrv⟩:=h2 i hi
   rw [splice_length,splice_getD new cs off i hin]
   by_cases hit:off≤i∧i<off+new.length
   ·have:=W.hit (i - off) (by omega)
    rw [show p.off+off+(i - off)=p.off+i from by omega] at this
    refine ⟨_,this,ho1 _ (by omega),fun _=>?_⟩
    rw [if_pos hit]
    exact hmono (hr (i - off) (by omega))
   ·refine ⟨v,(W.miss _ (by simp only;omega)).trans hv,hov,fun hc=>?_⟩
    rw [if_neg hit]
    exact hmono (hrv hc)
  ·rename_i e
   exact (I.blk id' b' q hb' hq).wrote W ho1 hcell (fun ho e'=>e (I.sep id' id b' _ q p hb' hg ho rfl hq hp e'))
 ·intro i j b1 b2 p1 p2 g1 g2 o1 o2 m1 m2 e
  rw [St.get_put] at g1 g2
  have f:∀ {k:Nat} {b:Blk},(if k=id then some (Blk.cells .mut (splice cs off new)) else s.get k)=some b→b.owns=true→∃ b',s.get k=some b'∧b'.owns=true:=by
   intro k b h ho
   split at h
   ·rename_i e;subst e;exact ⟨_,hg,rfl⟩
   ·exact ⟨b,h,ho⟩
  obtain ⟨c1,k1,l1⟩:=f g1 o1
  obtain ⟨c2,k2,l2⟩:=f g2 o2
  exact I.sep i j c1 c2 p1 p2 k1 k2 l1 l2 m1 m2 e
 ·intro r hr'
  obtain ⟨a,b⟩:=I.defers r hr'
  refine ⟨a,?_⟩
  rw [W.block r ?_]
  ·exact b
  ·rintro rfl
   simp [World.shape?,b] at h0
theorem Inv.congr (I:Inv cmp w0 μ ι δ s w) (hn:s'.n=s.n) (h:∀ j,s'.get j=s.get j):Inv cmp w0 μ ι δ s' w:=
 ⟨I.below,fun id p hp=>by rw [hn];exact I.dom id p hp,I.io,fun id b p hb=>I.blk id b p (by rw [← h];exact hb),
  fun i j b1 b2 p1 p2 g1 g2=>I.sep i j b1 b2 p1 p2 (by rw [← h];exact g1) (by rw [← h];exact g2),I.defers,I.low,I.own⟩
theorem Inv.place (I:Inv cmp w0 μ ι δ s w) (id:Nat) (hid:id<s.n) (hno:μ id=none) (p:Place) (b:Blk) (hg:s.get id=some b) (h1:w0.heap.size≤p.b) (h2:p.b<w.heap.size)
  (hb:Rb cmp μ ι w p b) (ho:b.owns=true→∀ j b' p',s.get j=some b'→b'.owns=true→μ j=some p'→p'.b≠p.b) :
  Inv cmp w0 (μ.upd id p) ι δ s w∧Ext μ ι δ w (μ.upd id p) ι δ w:=by
 have hle:∀ j q,μ j=some q→(μ.upd id p) j=some q:=fun j q h=>by
  unfold Mu.upd
  rw [if_neg (fun e=>by rw [e,hno] at h;cases h)]
  exact h
 have hRb:∀ {q:Place} {b:Blk},Rb cmp μ ι w q b→Rb cmp (μ.upd id p) ι w q b:=fun h=>h.mono hle (fun _ _ h=>h) (fun _ _ _=>rfl) rfl (fun _ _ h=>h)
 refine ⟨⟨I.below,?_,I.io,?_,?_,I.defers,I.low,I.own⟩,⟨hle,fun _ _ h=>h,fun _ _ _=>rfl,Nat.le_refl _,fun _ h=>h⟩⟩
 ·intro j q hq
  unfold Mu.upd at hq
  split at hq
  ·rename_i e;cases hq;subst e;exact ⟨hid,h1,h2⟩
  ·exact I.dom j q hq
 ·intro j b' q hb' hq
  unfold Mu.upd at hq
  split at hq
  ·rename_i e;cases hq;subst e;rw [hg] at hb';cases hb';exact hRb hb
  ·exact hRb (I.blk j b' q hb' hq)
 ·intro i j b1 b2 p1 p2 g1 g2 o1 o2 m1 m2 e
  unfold Mu.upd at m1 m2
  by_cases e1:i=id<;>by_cases e2:j=id
  ·omega
  ·rw [if_pos e1] at m1;rw [if_neg e2] at m2;cases m1;subst e1;rw [hg] at g1;cases g1
   exact absurd e.symm (ho o1 j b2 p2 g2 o2 m2)
  ·rw [if_neg e1] at m1;rw [if_pos e2] at m2;cases m2;subst e2;rw [hg] at g2;cases g2
   exact absurd e (ho o2 i b1 p1 g1 o1 m1)
  ·rw [if_neg e1] at m1;rw [if_neg e2] at m2
   exact I.sep i j b1 b2 p1 p2 g1 g2 o1 o2 m1 m2 e
theorem Inv.phantom (I:Inv cmp w0 μ ι δ s w) (b:Blk):Inv cmp w0 μ ι δ (s.new b) w:=by
 have hne:∀ {id:Nat} {p:Place},μ id=some p→id≠s.n:=fun h e=>by have:=(I.dom _ _ h).1;omega
 refine ⟨I.below,fun id p hp=>⟨by have:=(I.dom id p hp).1;simp;omega,(I.dom id p hp).2⟩,I.io,?_,?_,I.defers,I.low,I.own⟩
 ·intro id b' p hb' hp
  rw [St.get_new,if_neg (hne hp)] at hb'
  exact I.blk id b' p hb' hp
 ·intro i j b1 b2 p1 p2 g1 g2 o1 o2 m1 m2 e
  rw [St.get_new,if_neg (hne m1)] at g1
  rw [St.get_new,if_neg (hne m2)] at g2
  exact I.sep i j b1 b2 p1 p2 g1 g2 o1 o2 m1 m2 e
theorem Inv.addIo (I:Inv cmp w0 μ ι δ s w) (C:Io) (hlow:∀ b o,C b o→w0.heap.size≤b) (hpl:∀ b o,C b o→PlainB w b) (hex:∀ b o,C b o→∃ v,w.cell? ⟨b,o,none⟩=some v)
  (hno:∀ id b p,s.get id=some b→b.owns=true→μ id=some p→∀ o,¬ C p.b o) :
  Inv cmp w0 μ (fun b o=>ι b o∨C b o) δ s w∧Ext μ ι δ w μ (fun b o=>ι b o∨C b o) δ w:=by
 refine ⟨⟨I.below,I.dom,?_,?_,I.sep,I.defers,fun b o h hb=>h.elim (fun h=>I.low b o h hb) (fun h=>absurd (hlow b o h) (by omega)),fun b o h hb=>h.elim (fun h=>I.own b o h hb) (fun h=>hpl b o h)⟩,⟨fun _ _ h=>h,fun _ _ h=>.inl h,fun _ _ _=>rfl,Nat.le_refl _,fun _ h=>h⟩⟩
 ·rintro b o (h | h)
  ·exact I.io b o h
  ·exact hex b o h
 ·intro id b p hb hp
  refine (I.blk id b p hb hp).mono (fun _ _ h=>h) (fun _ _ h=>.inl h) (fun _ _ _=>rfl) rfl (fun ho i hi=>?_)
  rcases hi with hi | hi
  ·exact hi
  ·exact absurd hi (hno id b p hb ho hp i)
theorem Inv.recell (I:Inv cmp w0 μ ι δ s w) {id:Nat} {m m':Md} {cs cs':List LV} {p:Place} (hg:s.get id=some (.cells m cs)) (hp:μ id=some p) (hl:cs'.length=cs.length)
  (hm:m'=m∨(m = .mut∧m' = .app)) (hr:∀ i x,i<cs.length→w.cell? ⟨p.b,p.off+i,none⟩=some x→Rv μ ι w (cs'.getD i .top) x) :
  ∃ ι',Inv cmp w0 μ ι' δ (s.put id (.cells m' cs')) w∧Ext μ ι δ w μ ι' δ w∧(m'≠.mut→∀ i,i<cs.length→ι' p.b (p.off+i)):=by
 have hb:=I.blk id _ p hg hp
 obtain ⟨⟨x,h0⟩,h1,h2,h3,h4,h5,h6⟩:=hb
 have hsep:∀ (b':Blk),b'.owns=true→(m≠.ro)→∀ i j b1 b2 p1 p2,(s.put id b').get i=some b1→(s.put id b').get j=some b2→b1.owns=true→b2.owns=true→μ i=some p1→μ j=some p2→p1.b=p2.b→i=j:=by
  intro b' _ hro i j b1 b2 p1 p2 g1 g2 o1 o2 m1 m2 e
  rw [St.get_put] at g1 g2
  have f:∀ {k:Nat} {b:Blk},(if k=id then some b' else s.get k)=some b→b.owns=true→∃ b',s.get k=some b'∧b'.owns=true:=by
   intro k b h ho
   split at h
   ·rename_i e;subst e;exact ⟨_,hg,by cases m<;>first | rfl | exact absurd rfl hro⟩
   ·exact ⟨b,h,ho⟩
  obtain ⟨c1,k1,l1⟩:=f g1 o1
  obtain ⟨c2,k2,l2⟩:=f g2 o2
  exact I.sep i j c1 c2 p1 p2 k1 k2 l1 l2 m1 m2 e
 rcases hm with rfl | ⟨rfl,rfl⟩
 · -- the mode as it was
  refine ⟨ι,⟨I.below,I.dom,I.io,?_,?_,I.defers,I.low,I.own⟩,Ext.refl _ _ _ _,h4⟩
  ·intro id' b' q hb' hq
   rw [St.get_put] at hb'
   split at hb'
   ·rename_i e;subst e;cases hb'
    obtain rfl:p=q:=Option.some.inj (hp.symm.trans hq)
    refine ⟨⟨x,h0⟩,by rw [hl];exact h1,fun i hi=>?_,h3,by rw [hl];exact h4,h5,by rw [hl];exact h6⟩
    obtain ⟨v,hv,hov,_⟩:=h2 i hi
    exact ⟨v,hv,hov,fun hc=>hr i v (by rw [← hl];exact hc) hv⟩
   ·exact I.blk id' b' q hb' hq
  ·by_cases hro:m' = .ro
   ·subst hro
    intro i j b1 b2 p1 p2 g1 g2 o1 o2 m1 m2 e
    rw [St.get_put] at g1 g2
    split at g1
    ·cases g1;cases o1
    ·split at g2
     ·cases g2;cases o2
     ·exact I.sep i j b1 b2 p1 p2 g1 g2 o1 o2 m1 m2 e
   ·exact hsep (.cells m' cs') (by cases m'<;>first | rfl | exact absurd rfl hro) hro
 · -- frozen
  let C:Io:=fun b o=>b=p.b∧∃ i,i<cs.length∧o=p.off+i
  refine ⟨fun b o=>ι b o∨C b o,⟨I.below,I.dom,?_,?_,hsep (.cells .app cs') rfl (by simp),I.defers,fun b o h hb=>h.elim (fun h=>I.low b o h hb) (fun h=>absurd (I.dom _ _ hp).2.1 (by have:=h.1;omega)),fun b o h hb=>h.elim (fun h=>I.own b o h hb) (fun h=>by obtain ⟨rfl,_⟩:=h;exact ⟨⟨x,h0⟩,h3⟩)⟩,⟨fun _ _ h=>h,fun _ _ h=>.inl h,fun _ _ _=>rfl,Nat.le_refl _,fun _ h=>h⟩,fun _ i hi=>.inr ⟨rfl,i,hi,rfl⟩⟩
  ·rintro b o (h | ⟨rfl,i,hi,rfl⟩)
   ·exact I.io b o h
   ·obtain ⟨v,hv,_⟩:=h2 i (by omega);exact ⟨v,hv⟩
  ·intro id' b' q hb' hq
   rw [St.get_put] at hb'
   split at hb'
   ·rename_i e;subst e;cases hb'
    obtain rfl:p=q:=Option.some.inj (hp.symm.trans hq)
    refine ⟨⟨x,h0⟩,by rw [hl];exact h1,fun i hi=>?_,h3,fun _ i hi=>.inr ⟨rfl,i,by rw [← hl];exact hi,rfl⟩,(fun hm=>by cases hm),fun _ i hl' hi hx=>?_⟩
    ·obtain ⟨v,hv,hov,_⟩:=h2 i hi
     exact ⟨v,hv,hov,fun hc=>(hr i v (by rw [← hl];exact hc) hv).mono (fun _ _ _=>rfl) (fun _ _ h=>h) (fun _ _ h=>.inl h)⟩
    ·rcases hx with hx | ⟨_,j,hj,e⟩
     ·exact h5 rfl i hi hx
     ·omega
   ·rename_i e
    refine (I.blk id' b' q hb' hq).mono (fun _ _ h=>h) (fun _ _ h=>.inl h) (fun _ _ _=>rfl) rfl (fun ho i hi=>?_)
    rcases hi with hi | ⟨eb,_⟩
    ·exact hi
    ·exact absurd (I.sep id' id b' _ q p hb' hg ho rfl hq hp eb) e
theorem Inv.toRo (I:Inv cmp w0 μ ι δ s w) {id:Nat} {m:Md} {cs cs':List LV} {p:Place} (hg:s.get id=some (.cells m cs)) (hp:μ id=some p) (h:cs'=[]∨(m = .app∧cs'=cs)) :
  Inv cmp w0 μ ι δ (s.put id (.cells .ro cs')) w∧(∀ j b p p',(s.put id (.cells .ro cs')).get j=some b→b.owns=true→m≠.ro→μ j=some p→μ id=some p'→p.b≠p'.b):=by
 obtain ⟨⟨x,h0⟩,h1,h2,h3,h4,h5,h6⟩:=I.blk id _ p hg hp
 refine ⟨⟨I.below,I.dom,I.io,?_,?_,I.defers,I.low,I.own⟩,?_⟩
 ·intro id' b' q hb' hq
  rw [St.get_put] at hb'
  split at hb'
  ·rename_i e;subst e;cases hb'
   obtain rfl:p=q:=Option.some.inj (hp.symm.trans hq)
   refine ⟨⟨x,h0⟩,?_,fun i hi=>?_,h3,?_,(fun hm=>by cases hm),(fun hm=>by cases hm)⟩
   ·rcases h with rfl | ⟨_,rfl⟩
    ·simp
    ·exact h1
   ·obtain ⟨v,hv,hov,hr⟩:=h2 i hi
    refine ⟨v,hv,hov,fun hc=>?_⟩
    rcases h with rfl | ⟨_,rfl⟩
    ·simp at hc
    ·exact hr hc
   ·intro _ i hi
    rcases h with rfl | ⟨hm,rfl⟩
    ·simp at hi
    ·exact h4 (by rw [hm];simp) i hi
  ·exact I.blk id' b' q hb' hq
 ·intro i j b1 b2 p1 p2 g1 g2 o1 o2 m1 m2 e
  rw [St.get_put] at g1 g2
  split at g1
  ·cases g1;cases o1
  ·split at g2
   ·cases g2;cases o2
   ·exact I.sep i j b1 b2 p1 p2 g1 g2 o1 o2 m1 m2 e
 ·intro j b q p' gj oj hm hq hp' e
  rw [St.get_put] at gj
  split at gj
  ·cases gj;cases oj
  ·rename_i hne
   exact hne (I.sep j id b _ q p' gj hg oj (by cases m<;>first | rfl | exact absurd rfl hm) hq hp' e)
theorem Inv.wroteFree (I:Inv cmp w0 μ ι δ s w) {b o:Nat} {vs:List Value} (W:Wrote b o vs w w') (hB:w0.heap.size≤b) (ho1:∀ i,i<vs.length→(vs.getD i undef).oneCell'=true) (hn:∀ i,i<vs.length→¬ ι b (o+i))
  (hs:∃ x,w.shape? b=some x) (hfree:∀ j bl p,s.get j=some bl→bl.owns=true→μ j=some p→p.b≠b):Inv cmp w0 μ ι δ s w'∧Ext μ ι δ w μ ι δ w':=by
 have hcell:=wrote_cell W hn
 refine ⟨⟨Below.wrote I.below W hB,fun i q hq=>by have:=I.dom i q hq;rw [W.size];exact this,fun b o hi=>?_,fun id b' p hb' hp=>?_,I.sep,fun r hr=>?_,I.low,fun b o hi hb=>(I.own b o hi hb).wrote W⟩,
  ⟨fun _ _ h=>h,fun _ _ h=>h,hcell,Nat.le_of_eq W.size.symm,fun _ h=>h⟩⟩
 ·obtain ⟨v,hv⟩:=I.io b o hi
  exact ⟨v,(hcell b o hi).trans hv⟩
 ·exact (I.blk id b' p hb' hp).wrote W ho1 hcell (fun ho=>hfree id b' p hb' ho hp)
 ·obtain ⟨a,c⟩:=I.defers r hr
  refine ⟨a,?_⟩
  rw [W.block r ?_]
  ·exact c
  ·rintro rfl
   obtain ⟨x,h0⟩:=hs
   simp [World.shape?,c] at h0
end
end Go.Pv
end
