/- From the machine's code to its plain form: types looked up once and for all. -/
import Derived.Test.YtkbiecjdcjfhaaaGreatPvCore
import Derived.Orders
import Derived.Laws.Entries
import Derived.ChangeKeysEq
import Derived.LaidEql
import Derived.WalkSpells
import Derived.Laws.StructEq
set_option linter.unusedSimpArgs false
set_option linter.unusedVariables false
set_option maxRecDepth 100000
set_option maxHeartbeats 16000000
section
namespace Go.Pv
open Go
structure Ctx where
  P:Program
  /-- package-level variables that hold what they hold for ever -/
  wJ:List (Nat × List LV)
  /-- boxes of this function (by slot) that are written behind their making -/
  refs:List Nat
  /-- the number of V0 -/
  nt:Nat
def tY:Value->Option LV
 | .bool b=>some (.bool b)
 | .int k n=>some (.int k n)
 | .string s=>some (.str s)
 | .pointer none=>some .eS
 | .slice none 0 0=>some .aq
 | .map none=>some .cm
 | .nilFunc=>some .js
 | .nilIface=>some .lU
 | _=>none
def nu:Value->Option LV
 | .agg cs=>(cs.toList.mapM tY).map .agg
 | .tuple vs=>if vs.toList.length=0 then some (.cE []) else none
 | v=>tY v
def cP (c:Ctx):Operand->Option bF
 | .tmp t=>some (.t t)
 | .const v=>(nu v).map .c
 | .global g=>((c.wJ.find? λx=>x.1 == g).map λx=>.c (.aY x.2 0))
 | .func f=>some (.c (.fn (.func f) [] []))
def yu (c:Ctx) (l:List Operand):Option (List bF):=l.mapM (cP c)
def sr (c:Ctx):Option Operand->Option (Option bF)
 | none=>some none
 | some x=>(cP c x).map some
def gU (P:Program) (t:TypeId):Option Nat:=(P.info? t).map (·.size)
def oc (P:Program) (t:TypeId):Option (Option Nat) :=
 match P.underlying t with
 | some (.struct _) | some (.array _ _)=>(gU P t).map some
 | some _=>some none
 | none=>none
def oY (P:Program) (t:TypeId):Option (List LV):=do
 let i <- P.info? t;let z <- i.zero;cells? (<- nu z)
def pZ (P:Program) (t:TypeId):Option cT:=
 match P.underlying t with
 | some .bool=>some .bool
 | some (.int _)=>some .int
 | some .string=>some .str
 | _=>none
def mY (P:Program) (fs:List Field):Option (List (Nat × Nat × cT)):=fs.mapM λf=>(pZ P f.type).map λe=>(f.offset,1,e)
def RO (P:Program) (f:Field):Option (List (Nat × Nat × cT)) :=
 match pZ P f.type with
 | some e=>some [(f.offset,1,e)]
 | none=>
   match P.underlying f.type,gU P f.type with
   | some (.struct gs),some n=>
     if P.stoodInHeld f.type || !(gs.toList.all fun g => g.name != "_" && Nat.blt g.offset n) then none else
     (mY P gs.toList).map λl=>l.map λp=>(f.offset+p.1,p.2)
   | _,_=>none
def nj (P:Program):List Field->Option (List (Nat × Nat × cT))
 | []=>some []
 | f::fs=>
   match RO P f with
   | some a=>(match nj P fs with | some b=>some (a++b) | none=>none)
   | none=>none
def M1 (P:Program) (t:TypeId):Option cT:=
 match P.underlying t with
 | some .bool | some (.int _) | some .string=>pZ P t
 | some (.pointer _)=>some .ptr
 | some (.slice _)=>some .Li
 | some (.map _ _)=>some .mp
 | some (.func _ _ _)=>some .fnc
 | some (.interface _)=>some .su
 | some (.struct fs) =>
   if P.stoodInHeld t || P.eqGuardType P.depth t then none else
   if fs.toList.all (fun f => f.name != "_") then (nj P fs.toList).map .struct else none
 | _=>none
def partsOf (c:Ctx) (place:Nat->Option (Nat × Nat)) (ps:List (Nat × Operand)):Option (List (Nat × Nat × bF)) :=
 ps.mapM λ(i,x)=>do
  let (off,size) <- place i;let x <- cP c x;some (off,size,x)
def uu:BinOp->Bool
 | .eql | .neq=>false
 | _=>true
def Kp (P:Program) (t:TypeId):Option Unit:=
 match P.underlying t with
 | some _=>some ()
 | none=>none
def X6 (P:Program) (t:TypeId):Bool:=
 match P.underlying t with
 | some (.pointer b)=>(match gU P b with | some n=>n != 0 | none=>false)
 | _=>false
def nilO:bF->Bool
 | .c .eS=>true
 | _=>false
def Kt:BinOp->Bool
 | .neq=>true
 | _=>false
def XC (c:Ctx) (o:Oper):Bool:=
 match o.dst with
 | some d=>!c.refs.contains d
 | none=>false
def rU (c:Ctx) (x:Operand) (t:TypeId):Option bq:=
 match c.P.underlying t with
 | some (.slice _)=>do some (.yL (<- cP c x))
 | some .string=>do some (.yK (<- cP c x))
 | some (.array n _)=>some (.CP n)
 | some (.map _ _)=>do some (.kF (<- cP c x))
 | _=>none
def Fb:TypeDesc->Bool
 | .slice _ | .string=>true
 | _=>false
def Yz (P:Program) (t:TypeId):Bool:=
 match P.underlying t with
 | some (.int .u8)=>true
 | _=>false
def mT (P:Program) (t:TypeId):Option Dw:=
 match P.underlying t with
 | some (.int k)=>some (.int k)
 | some .string=>some .str
 | some (.struct _) =>
   match M1 P t with
   | some (.struct b)=>some (.st b)
   | _=>none
 | _=>none
def Qe:TypeDesc->Bool
 | .int _=>true
 | _=>false
def rV (c:Ctx) (x:Operand) (t:TypeId):Option bq:=
 match c.P.underlying t with
 | some (.slice _)=>do some (.Sd (<- cP c x))
 | _=>none
def keepO (c:Ctx):Operand->Bool
 | .tmp d=>c.refs.contains d
 | _=>false
def iz (c:Ctx) (x y:Operand) (t u:TypeId):Option bq:=
 match c.P.underlying t with
 | some (.slice e)=>do
   let d <- c.P.underlying u;let i <- c.P.info? e;let z <- oY c.P e;if i.size=0∨i.bytes=0∨z.length≠i.size then none else
   if Fb d=true then (if keepO c y=true then do some (.xQ i.size i.bytes (<- cP c x) (<- cP c y)) else do some (.append i.size i.bytes (<- cP c x) (<- cP c y))) else
   if Qe d=true then do some (.Nl i.size i.bytes z (<- cP c x) (<- cP c y)) else none
 | _=>none
def mz (c:Ctx) (x y:Operand) (t:TypeId):Option bq:=
 match c.P.underlying t with
 | some (.slice e)=>do some (.copy (<- gU c.P e) (<- cP c x) (<- cP c y))
 | _=>none
def oR (c:Ctx) (x:Operand) (t:TypeId):Option bq:=
 match c.P.underlying t with
 | some (.slice e)=>do some (.clr (<- gU c.P e) (<- oY c.P e) (<- cP c x))
 | _=>none
def eG (c:Ctx) (b:Builtin) (as:List Operand) (d:List TypeId):Option bq:=
 match b,as,d with
 | .len,[x],[t]=>rU c x t
 | .append,[x,y],[t,u]=>iz c x y t u
 | .copy,[x,y],[t,_]=>mz c x y t
 | .cap,[x],[t]=>rV c x t
 | .clear,[x],[t]=>oR c x t
 | .min,x::xs,_=>do some (.ju false (<- yu c (x::xs)))
 | .max,x::xs,_=>do some (.ju true (<- yu c (x::xs)))
 | _,_,_=>none
def bH (c:Ctx) (o:Oper):Option bq:=
 match o.op with
 | .move x | .assign x=>(cP c x).map .mv
 | .pick k a b=>do some (.pick (<- cP c k) (<- cP c a) (<- cP c b))
 | .box _ x=>do some (.box (XC c o) (<- cP c x))
 | .alloc t=>do some (.alloc (<- oY c.P t))
 | .build t ps=>do
   let z <- oY c.P t;match c.P.underlying t with
   | some (.struct fs) =>
     let r <- fs.toList.mapM λf=>do some (f.offset,<- gU c.P f.type)
     some (.build z (<- partsOf c (r[·]?) ps.toList))
   | some (.array _ e)=>do
     let size <- gU c.P e;some (.build z (<- partsOf c (λi=>some (i*size,size)) ps.toList))
   | _=>none
 | .buildSlice t len ps=>
   match c.P.underlying t with
   | some (.slice e)=>do
     let size <- gU c.P e;let z <- oY c.P e;if size=0∨z.length≠size∨len*size > 2 ^ 20 then none else
     some (.bu size len z (<- partsOf c (λi=>some (i*size,size)) ps.toList))
   | _=>none
 | .load t x=>do some (.load (<- oc c.P t) (<- cP c x))
 | .store t a x=>do some (.store (<- gU c.P t) (<- cP c a) (<- cP c x))
 | .nilCheck x=>do some (.vD (<- cP c x))
 | .binOp op q x y _=>do
   let x <- cP c x;let y <- cP c y;match c.P.underlying q with
   | some (.int _) | some .string=>some (.bin op x y)
   | _=>if uu op then none else do
     let u <- M1 c.P q;if (X6 c.P q && !nilO x && !nilO y)=true then some (.RX (Kt op) x y) else some (.eq (Kt op) u x y)
 | .unOp op _ x=>do some (.un op (<- cP c x))
 | .convert d dst x=>
   match c.P.underlying dst with
   | some (.int k)=>do Kp c.P d;some (.k9 k (<- cP c x))
   | some .string=>
     match c.P.underlying d with
     | some (.slice A)=>if Yz c.P A then (cP c x).map .mA else none
     | some _=>(cP c x).map .uP
     | none=>none
   | _=>none
 | .range t x=>
   match c.P.underlying t with
   | some (.map _ _)=>do some (.oA (<- cP c x))
   | _=>none
 | .next x false=>(cP c x).map .kN
 | .entry x=>(cP c x).map .oB
 | .makeMap t x=>
   match c.P.underlying t with
   | some (.map _ _)=>do some (.iT (<- sr c x))
   | _=>none
 | .lookup t m k ok=>
   match c.P.underlying t with
   | some (.map key g)=>do
     let kd <- mT c.P key;let z <- (c.P.info? g).bind (·.zero);some (.gp kd (<- nu z) ok (<- cP c m) (<- cP c k))
   | _=>none
 | .mapUpdate t m k x | .insert t m k x=>
   match c.P.underlying t with
   | some (.map key _)=>do
     let kd <- mT c.P key;some (.mZ kd (<- cP c m) (<- cP c k) (<- cP c x))
   | _=>none
 | .slice t x (some h) (some j) (some B) =>
   match c.P.underlying t with
   | some (.slice e)=>do let _ <- gU c.P e;some (.vr (<- cP c x) (<- cP c h) (<- cP c j) (<- cP c B))
   | _=>none
 | .makeFunc (.func f) first p=>do some (.uk (.func f) (<- yu c first.toList) (<- yu c p.toList))
 | .makeSlice t l k=>
   match c.P.underlying t with
   | some (.slice e)=>do
     let i <- c.P.info? e;let z <- oY c.P e;if i.size=0 then none else
     some (.cH i.size i.bytes z (<- cP c l) (<- cP c k))
   | _=>none
 | .slice t x h j none=>
   match c.P.underlying t with
   | some (.slice e)=>do some (.slice (<- gU c.P e) (<- cP c x) (<- sr c h) (<- sr c j))
   | some .string=>do some (.pW (<- cP c x) (<- sr c h) (<- sr c j))
   | some (.array n e)=>do some (.nE (<- gU c.P e) n (<- cP c x) (<- sr c h) (<- sr c j))
   | _=>none
 | .fieldAddr s x f=>
   match c.P.underlying s with
   | some (.struct fs)=>do
     let fl <- fs[f]?;let size <- gU c.P fl.type;if size=0 then none else some (.sY fl.offset (<- cP c x))
   | _=>none
 | .field t x f=>
   match c.P.underlying t with
   | some (.struct fs)=>do
     let fl <- fs[f]?;some (.field fl.offset (<- oc c.P fl.type) (<- cP c x))
   | _=>none
 | .indexAddr t x i=>
   match c.P.underlying t with
   | some (.slice e)=>do some (.wj (<- gU c.P e) (<- cP c x) (<- cP c i))
   | some (.array n e)=>do some (.uy (<- gU c.P e) n (<- cP c x) (<- cP c i))
   | _=>none
 | .index t x i=>
   match c.P.underlying t with
   | some (.array n e)=>do some (.ux (<- gU c.P e) n (<- oc c.P e) (<- cP c x) (<- cP c i))
   | some .string=>do some (.qq (<- cP c x) (<- cP c i))
   | _=>none
 | .extract x i=>do some (.ext (<- cP c x) i)
 | .call { callee:=.value f,args, .. } => do some (.call (<- cP c f) (<- yu c args.toList))
 | .call { callee:=.builtin b,args,argTypes } => eG c b args.toList argTypes.toList
 | _=>none
def dZ (c:Ctx) (ops:Array Oper) (o:Oper):Option bC:=do
 let op <- bH c o;match o.dst with
 | some d=>if d<c.nt then pure () else none
 | none=>pure ()
 match o.guard with
 | none=>some { dst:=o.dst,op }
 | some (j,b)=>do
   let d <- (ops[j]?).bind (·.dst);some { dst:=o.dst,op,guard:=some (d,b) }
def Op.looks:Op->Bool
 | .move _ | .assign _ | .pick .. | .build .. | .load .. | .nilCheck _ | .binOp .. | .unOp .. | .fieldAddr .. | .field .. | .indexAddr .. | .index .. | .extract .. | .makeFunc .. | .slice .. => true
 | .convert .. => true
 | .call { callee:=.builtin .len, .. } | .call { callee:=.builtin .min, .. } | .call { callee:=.builtin .max, .. } => true
 | _=>false
def Op.makes:Op->Bool
 | .alloc _ | .box .. | .buildSlice .. | .makeSlice .. => true
 | _=>false
def fL (o:Oper):List Nat:=o.after.toList.filterMap λe=>if Region.binds .any e then some e.on else none
def ew:List Oper->List Nat->List Nat
 | [],acc=>acc
 | o::os,acc=>ew os (acc++[(fL o).foldl (λs j=>s ||| 2 ^ j ||| acc.getD j 0) 0])
def iy:bq->Bool
 | .box .. | .alloc _ | .bu .. | .cH .. | .store .. | .append .. | .xQ .. | .copy .. | .call .. | .iT _ | .mZ .. | .oA _ | .kN _ | .Nl .. | .clr .. | .RX .. => false
 | _=>true
def kT:bq->Bool
 | .load .. | .mA _ | .gp .. | .kF _ | .oB _ | .nE .. => true
 | _=>false
def CW:bq->Bool
 | .mA _ | .vr .. | .gp .. | .kF _ | .iT _ | .mZ .. | .oA _ | .oB _ | .Sd _ | .Nl .. => true
 | _=>false
def jO:bq->Bool
 | .box true _=>true
 | _=>false
def lX:bq->Bool
 | .box false _ | .alloc _ | .bu .. | .cH .. => true
 | _=>false
def xA (o:bq):Bool:=iy o || jO o || lX o
abbrev nA:=Nat × Oper × bC
def cN (ops:Array Oper) (x:nA):List Nat:=x.2.1.looksAt ops++x.2.2.op.tmps++(match x.2.2.guard with | some g=>[g.1] | none=>[])
def iY (ops:Array Oper) (jf:List Nat) (all:List nA) (x:nA):Bool:=
 iy x.2.2.op && match x.2.2.dst with
 | some d=>all.any λz=>(cN ops z).contains d && !(jf.getD z.1 0).testBit x.1
 | none=>false
def cA (b:nA->Bool) (x:nA):Bool:=xA x.2.2.op && !b x
def canon (ops:List Oper) (fl:List Nat):Nat->List Nat->List Nat->List Nat->List Nat
 | 0,_,_,_=>[]
 | n + 1, done, rest, G5 =>
   let b:=λ(i:Nat)=>((ops[i]?).map λo=>(fL o).all λj=>done.contains j).getD false;match rest.find? (λi=>fl.contains i && b i) with
   | some i=>i::canon ops fl n (i::done) (rest.erase i) G5
   | none=>
     match G5 with
     | i::G5=>i::canon ops fl n (i::done) (rest.erase i) G5
     | []=>[]
def wM (jf:List Nat) (pre:List nA) (x:nA):List (Nat × Option (Nat × Bool) × bq) :=
 if iy x.2.2.op || jO x.2.2.op then [] else
 pre.filterMap λy=>if kT y.2.2.op && (lX x.2.2.op || !(jf.getD x.1 0).testBit y.1) then y.2.2.dst.map λd=>(d,y.2.2.guard,y.2.2.op) else none
def drawn (jf:List Nat):List nA->List nA->List bC
 | _,[]=>[]
 | pre,x::rest=>{ x.2.2 with jT:=wM jf pre x,fl:=true } :: drawn jf (pre++[x]) rest
def uN (ops:Array Oper) (jf:List Nat) (base:List nA) (b:nA->Bool) (pre:List nA) (x:nA) (rest:List nA):Bool:=
 (fL x.2.1).all (λj=>(pre.map (·.1)).contains j) &&
 (cA b x || rest.all λy=>!cA b y || (fL y.2.1).any λj=>!(pre.map (·.1)).contains j) &&
 base.all (λy=>match y.2.2.dst with
  | some d=>!(cN ops x).contains d || (y.1 != x.1 && (jf.getD x.1 0).testBit y.1) || (b y && (y.1 == x.1 || (jf.getD y.1 0).testBit x.1))
  | none=>true) &&
 base.all (λy=>match y.2.2.dst with
  | some d=>x.1 == y.1 || x.2.2.dst != some d
  | none=>true) &&
 pre.all (λy=>match x.2.2.dst with
  | some d=>!(cN ops y).contains d || (b x && (jf.getD x.1 0).testBit y.1)
  | none=>true) &&
 (!kT x.2.2.op || x.2.2.dst.isSome) &&
 (!lX x.2.2.op || Op.makes x.2.1.op)
def xN (ops:Array Oper) (jf:List Nat) (base:List nA) (b:nA->Bool):List nA->List nA->Bool
 | _,[]=>true
 | pre,x::rest=>uN ops jf base b pre x rest && xN ops jf base b (pre++[x]) rest
def exts (jf:List Nat):Nat->List Nat->List (List Nat)
 | 0,_=>[[]]
 | n+1,rem=>(rem.filter λi=>rem.all λj=>j == i || !(jf.getD i 0).testBit j).flatMap λi=>(exts jf n (rem.erase i)).map (i::·)
def loose (jf:List Nat):List Nat->Nat
 | []=>0
 | i::r=>(r.filter λj=>!(jf.getD i 0).testBit j && !(jf.getD j 0).testBit i).length+loose jf r
def KY (ops:Array Oper) (jf:List Nat) (all:List nA) (b:nA->Bool) (fl G5:List Nat):Option (List bC) :=
 match (canon ops.toList fl ops.size [] (List.range ops.size) G5).mapM (λi=>all[i]?) with
 | none=>none
 | some base=>
   if base.length=ops.size/\(base.map (·.1)).Nodup/\(List.range ops.size).all (λi=>(base.map (·.1)).contains i)=true/\(base.filter λx=>!cA b x).map (·.1)=G5/\xN ops jf base b [] base=true then some (drawn jf [] base) else none
def uR (c:Ctx) (ops:Array Oper):Option (List (List bC)) :=
 let jf:=ew ops.toList [];match (List.range ops.size).mapM (λi=>do let o <- ops[i]?;let f <- dZ c ops o;some (i,o,f)) with
 | none=>none
 | some all=>
   let b:=iY ops jf all;let fl:=(all.filter (cA b)).map (·.1);let d:=(all.filter λx=>!cA b x).map (·.1);if loose jf d<=2/\(exts jf d.length d).isEmpty=false then (exts jf d.length d).mapM (KY ops jf all b fl) else none
def oQ (c:Ctx) (ops:Array Oper) (b:Bool):Option (List (List bC)) :=
 if b then uR c ops else (ops.toList.mapM (dZ c ops)).map λl=>[l]
def bA (c:Ctx):Code->bx
 | .skip | .label _=>.skip
 | .region _ ops d=>
   match oQ c ops d with
   | some [l]=>.region l
   | some ls=>.alts ls
   | none=>.bad
 | .seq a b=>.seq (bA c a) (bA c b)
 | .cond x a b=>match cP c x with | some y=>.cond y (bA c a) (bA c b) | none=>.bad
 | .block id a=>.block id (bA c a)
 | .loop a=>.loop (bA c a)
 | .rangeFunc f ps as g=>
   match cP c f with
   | some y=>if ps.toList.all (· < c.nt) then .rangeFunc y ps.toList (bA c as) (bA c g) else .bad
   | none=>.bad
 | .exit id=>.exit id
 | .scope a=>.scope (bA c a)
 | .ret=>.ret
 | .goto _=>.bad
 | .refuse _=>.bad
def uQ (c:Ctx):ResultVar->Option Jj
 | .tmp t=>some (.tmp t)
 | .cell a t=>do some (.cell a (<- oc c.P t))
def aL (P:Program) (wJ:List (Nat × List LV)) (refs:List Nat) (fn:Func):Option bh:=do
 let body <- fn.body;let c:Ctx:=⟨P,wJ,refs,fn.ntmps⟩;some { ntmps:=fn.ntmps,results:=<- fn.results.toList.mapM (uQ c),body:=bA c body }
open Go Go.RowKit
section
variable {P:Program}{w:World}{μ:Mu}{ι:Io}
theorem ru {t:TypeId}{d:TypeDesc}(h:P.underlying t=some d):(underlying t).run P w = .ok d w:=run_underlying h w
theorem Lq {t:TypeId}{i:TypeInfo}(h:P.info? t=some i):(typeInfo t).run P w = .ok i w:=by simp[typeInfo,h]
theorem wT {t:TypeId}{n:Nat}(h:gU P t=some n):(sizeOf t).run P w = .ok n w:=by
 unfold gU at h;cases b:P.info? t with
 | none=>simp[b]at h
 | some i=>simp[b]at h;simp[sizeOf,Lq b,h]
theorem rz {t:TypeId}{i:TypeInfo}{v:Value}(h:P.info? t=some i) (b:i.zero=some v):(zeroValue t).run P w = .ok v w:=by simp[zeroValue,Lq h,b]
theorem zZ {t:TypeId}(h:oc P t=some none):(isAgg t).run P w = .ok false w:=by
 unfold oc at h;cases b:P.underlying t with
 | none=>simp[b]at h
 | some d=>
   rw[b]at h;cases d<;>first
    | (simp[isAgg,ru b];done)
    | (simp only at h;cases hs:gU P t<;>simp[hs]at h)
theorem zY {t:TypeId}{n:Nat}(h:oc P t=some (some n)):(isAgg t).run P w = .ok true w/\gU P t=some n:=by
 unfold oc at h;cases b:P.underlying t with
 | none=>simp[b]at h
 | some d=>
   rw[b]at h;cases d<;>first
    | (simp at h;done)
    | (simp only at h;refine⟨by simp[isAgg,ru b],?_⟩;cases hs:gU P t<;>simp_all)
theorem x8 {v:Value}{x:LV}(h:tY v=some x):Rv μ ι w x v:=by
 unfold tY at h;split at h<;>first | (cases h;constructor;done) | (cases h;done) | skip
theorem iU {α g:Type}{f:α->Option g} : ∀ {l:List α}{r:List g},l.mapM f=some r->r.length=l.length/\∀ i (h:i<l.length),∃ y,r[i]? = some y/\f l[i]=some y:=by
 intro l;induction l with
 | nil=>intro r h;simp at h;subst h;exact⟨rfl,λi h=>absurd h (Nat.not_lt_zero _)⟩
 | cons a l ih=>
   intro r h;rw[List.mapM_cons]at h;cases d:f a with
   | none=>simp[d]at h
   | some b=>
     cases hl:l.mapM f with
     | none=>simp[d,hl]at h
     | some n=>
       simp[d,hl]at h;subst h;obtain⟨h1,h2⟩:=ih hl;refine⟨by simp[h1],λi j=>?_⟩;cases i with
       | zero=>exact⟨b,by simp,by simpa using d⟩
       | succ i=>obtain⟨y,k,m⟩:=h2 i (by simpa using j);exact⟨y,by simpa using k,by simpa using m⟩
theorem Dm {α:Type}{l:List α}{i:Nat}{y d:α}(h:l[i]? = some y):l.getD i d=y:=by simp[gD,h]
theorem nF {v:Value}{x:LV}(h:nu v=some x):Rv μ ι w x v:=by
 unfold nu at h;split at h
 ·rename_i cs;cases hm:cs.toList.mapM tY with
  | none=>simp[hm]at h
  | some l=>
    simp[hm]at h;subst h;obtain⟨h1,h2⟩:=iU hm;refine .agg (by simp[h1]) (λi b=>?_);obtain⟨y,f,hs⟩:=h2 i (by rw[<- h1];exact b);rw[Dm f];have d:i<cs.size:=by simpa[h1] using b
    have:cs.getD i undef=cs.toList[i]'(by simpa using d):=by simp[gF,d]
    rw[this];exact x8 hs
 ·split at h
  ·rename_i vs h0;cases h;have:vs = #[]:=by apply Array.ext';exact List.length_eq_zero_iff.1 h0
   subst this;exact .cE rfl (λi b=>absurd b (Nat.not_lt_zero _))
  ·cases h
 ·exact x8 h
theorem vW {v:LV}{x:Value}(b:Rv μ ι w v x) (h:bf v=true):x.oneCell'=true:=by
 cases b<;>first | rfl | (simp[bf]at h;done)
theorem iG {v:LV}{x:Value}{cs:List LV}(b:Rv μ ι w v x) (h:cells? v=some cs) :
 x.cells.size=cs.length/\(∀ i,i<cs.length->Rv μ ι w (cs.getD i .top) (x.cells.getD i undef))/\cs.all bf=true:=by
 cases b with
 | agg hl d=>
   simp only[cells?]at h;split at h
   ·rename_i f;cases h;exact⟨hl,d,f⟩
   ·cases h
 | top=>cases h
 | cE=>cases h
 | _ =>
   cases h;refine⟨rfl,λi g=>?_,rfl⟩;obtain rfl:i=0:=by simpa using g
   first
    | exact .bool _ | exact .int _ _ | exact .str _ | exact .eS | exact .aq | exact .js | exact .lU | exact .cm
    | (constructor<;>assumption)
theorem Nb {v:LV}{x:Value}{cs:List LV}(f:Rv μ ι w v x) (h:cells? v=some cs):∀ y∈x.cells.toList,y.oneCell'=true:=by
 obtain⟨h1,h2,h3⟩:=iG f h;intro y g;obtain⟨i,b,rfl⟩:=List.getElem_of_mem g;have d:i<cs.length:=by rw[<- h1];simpa using b
 have:=vW (h2 i d) (by
  rw[List.all_eq_true]at h3;refine h3 _ ?_;simp[gD,d])
 have j:i<x.cells.size:=by simpa using b
 simpa[gF,j] using this
end
section
variable {P:Program}{w:World}{w0:Bs}{μ:Mu}{ι:Io}{δ:Nat->Prop}{s s':St}{cmp:Nat->bx->Code->Prop}
theorem dY (cs:List LV) (off k i:Nat) (b:i<k):((cs.drop off).take k).getD i .top=cs.getD (off+i) .top:=by
 simp[gD,b]
theorem mS {t:TypeId}{n:Option Nat}(p:oc P t=some n) {cs:List LV}{b o off:Nat}{v:LV}
 (q:∀ i,i<cs.length->∃ x,w.cell? ⟨b,o+i,none⟩=some x/\Rv μ ι w (cs.getD i .top) x) (l:bG n cs off=some v) :
 ∃ x,(loadVar t ⟨b,o+off,none⟩).run P w = .ok x w/\Rv μ ι w v x:=by
 cases n with
 | none=>
   simp only[bG]at l;obtain⟨r,rfl⟩:=List.getElem?_eq_some_iff.1 l;obtain⟨x,hx,m⟩:=q off r;refine⟨x,by simp[loadVar,zZ p,hx],?_⟩;simpa[gD,r] using m
 | some k=>
   simp only[bG]at l;split at l
   ·rename_i B;cases l;obtain⟨h1,h2⟩:=zY (w:=w) p;have u:∀ i,∃ x,i<k->(w.cell? ⟨b,o+off+i,none⟩=some x/\Rv μ ι w (cs.getD (off+i) .top) x):=λi=>by
     by_cases d:i<k
     ·obtain⟨x,hx,m⟩:=q (off+i) om;exact⟨x,λ_=>⟨by rw[<- hx];congr 2;omega,m⟩⟩
     ·exact⟨undef,λh=>absurd h d⟩
    let f:Nat->Value:=λi=>Classical.choose (u i);have y:∀ i,i<k->(w.cell? ⟨b,o+off+i,none⟩=some (f i)/\Rv μ ι w (cs.getD (off+i) .top) (f i)):=λi d=>Classical.choose_spec (u i) d;have z:=run_loadCells (P:=P) (w:=w) b (o+off) ((List.range k).map f) (λj C=>by
     have A:j<k:=by simpa using C
     rw[(y j A).1];simp[gD,A])
    rw[List.length_map,List.length_range]at z;refine⟨.agg ((List.range k).map f).toArray,by simp[loadVar,h1,wT h2,z],?_⟩;have g:((cs.drop off).take k).length=k:=by simp;omega
    refine .agg (by simp[g]) (λi d=>?_);rw[g]at d;rw[dY _ _ _ _ d];have:=(y i d).2;simpa[gF,d] using this
   ·cases l
theorem EJ {t:TypeId}{n:Option Nat}(f:oc P t=some n) {cs:List LV}{vs:Array Value}{off:Nat}{v:LV}
 (hl:vs.size=cs.length) (h:∀ i,i<cs.length->Rv μ ι w (cs.getD i .top) (vs.getD i undef)) (d:bG n cs off=some v) :
 ∃ x,(part t vs off).run P w = .ok x w/\Rv μ ι w v x:=by
 cases n with
 | none=>
   simp only[bG]at d;obtain⟨g,rfl⟩:=List.getElem?_eq_some_iff.1 d;have m:=h off g;have j:off<vs.size:=by omega
   refine⟨vs[off],by simp[part,zZ f,j],?_⟩;simpa[gD,g,gF,j] using m
 | some k=>
   simp only[bG]at d;split at d
   ·rename_i p;cases d;obtain⟨h1,h2⟩:=zY (w:=w) f;refine⟨.agg (vs.extract off (off+k)),by simp[part,h1,wT h2],?_⟩;have b:((cs.drop off).take k).length=k:=by simp;omega
    refine .agg (by simp[b];omega) (λi l=>?_);rw[b]at l;rw[dY _ _ _ _ l];have:=h (off+i) om;have hx:(vs.extract off (off+k)).getD i undef=vs.getD (off+i) undef:=by
     simp only[gF,Array.getElem?_extract];rw[if_pos om]
    rw[hx];exact this
   ·cases d
theorem Inv.K4 (I:Inv cmp w0 μ ι δ s w) {id:Nat}{m:Md}{cs:List LV}{p:Place}(d:s.get id=some (.cells m cs)) (f:μ id=some p) :
 ∀ i,i<cs.length->∃ x,w.cell? ⟨p.b,p.off+i,none⟩=some x/\Rv μ ι w (cs.getD i .top) x:=λi g=>by
 obtain⟨_,h1,h2,_⟩:=I.dR id _ p d f;obtain⟨x,hx,_,h⟩:=h2 i om;exact⟨x,hx,h g⟩
theorem Inv.zN (I:Inv cmp w0 μ ι δ s w) {id:Nat}{m:Md}{cs:List LV}{p:Place}(d:s.get id=some (.cells m cs)) (f:μ id=some p) :
 ∀ i,i<cs.length->∃ x,w.cell? ⟨p.b,p.off+i,none⟩=some x/\x.oneCell'=true/\Rv μ ι w (cs.getD i .top) x:=λi g=>by
 obtain⟨_,h1,h2,_⟩:=I.dR id _ p d f;obtain⟨x,hx,ho,h⟩:=h2 i om;exact⟨x,hx,ho,h g⟩
theorem H9 {t:TypeId}{op:BinOp}{k:IntKind}{x y:Int}{v:LV}(h:Ia op k x y=some v) (hs:op≠.shl/\op≠.shr) :
 ∃ u,(binOp op t (.int k x) (.int k y)).run P w = .ok u w/\Rv μ ι w v u:=by
 cases op<;>simp only[Ia]at h<;>first
  | (cases h;refine⟨_,by simp[binOp,Op.intArith];rfl,by constructor⟩;done)
  | (cases h;refine⟨_,by simp[binOp,Op.intBits];rfl,by constructor⟩;done)
  | (cases h;refine⟨_,by simp[binOp,Op.intCmp];rfl,by constructor⟩;done)
  | (split at h;cases h;rename_i h0;cases h;refine⟨_,by simp[binOp,Op.intDiv,h0];rfl,by constructor⟩;done)
  | (exact absurd rfl hs.1) | (exact absurd rfl hs.2)
end
section
variable {P:Program}{w:World}{w0:Bs}{μ:Mu}{ι:Io}{δ:Nat->Prop}{s s':St}{cmp:Nat->bx->Code->Prop}
def Ra (μ:Mu) (ι:Io) (w:World) (cs:List LV) (vs:Array Value):Prop:=vs.size=cs.length/\∀ i,i<cs.length->Rv μ ι w (cs.getD i .top) (vs.getD i undef)
theorem Ra.set {cs:List LV}{vs:Array Value}(h:Ra μ ι w cs vs) {v:LV}{x:Value}(d:Rv μ ι w v x) (i:Nat):Ra μ ι w (cs.set i v) (vs.setIfInBounds i x):=by
 refine⟨by simp[h.1],λj f=>?_⟩;have b:j<cs.length:=by simpa using f
 have g:j<vs.size:=by rw[h.1];exact b
 by_cases e:i=j
 ·subst e;simpa[gD,gF,b,g] using d
 ·have:=h.2 j b;simpa[gD,gF,List.getElem?_set,Array.getElem?_setIfInBounds,e] using this
theorem Ra.splice (new:List LV):∀ (xs:List Value) (off n:Nat) (cs:List LV) (vs:Array Value),Ra μ ι w cs vs->xs.length=new.length ->
 (∀ i,i<new.length->Rv μ ι w (new.getD i .top) (xs.getD i undef)) ->
 Ra μ ι w (splice cs (off+n) new) ((xs.zipIdx n).foldl (λcs x=>cs.setIfInBounds (off+x.2) x.1) vs):=by
 induction new with
 | nil=>intro xs off n cs vs h hl _;simp at hl;subst hl;exact h
 | cons v new ih=>
   intro xs off n cs vs h hl b;cases xs with
   | nil=>simp at hl
   | cons x xs=>
     simp only[List.zipIdx_cons,List.foldl_cons,Pv.splice];rw[show off+n+1=off+(n+1) from by omega];refine ih xs off (n+1) _ _ (h.set (by simpa using b 0 (by simp)) _) (by simpa using hl) (λi d=>?_);have:=b (i+1) (by simpa using d);simpa using this
theorem uK {place:Nat->Option (Nat × Nat)} : ∀ (ps:List (Nat × Value)) (ls:List (Nat × Nat × LV)) (cs cs':List LV) (vs:Array Value),Ra μ ι w cs vs->ps.length=ls.length ->
 (∀ (i:Nat) (h:i<ps.length) (f:i<ls.length),place (ps[i].1)=some (ls[i].1,ls[i].2.1)/\Rv μ ι w ls[i].2.2 ps[i].2)->aU cs ls=some cs' ->
 ∃ vs',Instr.fill place vs ps=some vs'/\Ra μ ι w cs' vs':=by
 intro ps;induction ps with
 | nil=>
   intro ls cs cs' vs h hl _ b;obtain rfl:ls=[]:=by simpa using hl.symm
   simp[aU]at b;subst b;exact⟨vs,rfl,h⟩
 | cons p ps ih=>
   intro ls cs cs' vs h hl g b;cases ls with
   | nil=>simp at hl
   | cons l ls=>
     obtain⟨i,x⟩:=p;obtain⟨off,size,v⟩:=l;have h0:=g 0 (by simp) (by simp);simp only[List.getElem_cons_zero]at h0;simp only[aU]at b;cases d:cells? v with
     | none=>simp[d]at b
     | some new=>
       simp only[d]at b;split at b
       ·rename_i k;obtain⟨h1,h2,h3⟩:=iG h0.2 d;have m:=Ra.splice (new:=new) x.cells.toList off 0 cs vs h (by simp[h1]) (λi j=>by
         have:=h2 i j;have n:i<x.cells.size:=by rw[h1];exact j
         simpa[gD,gF,n] using this)
        obtain⟨vs',q,r⟩:=ih ls _ cs' _ m (by simpa using hl) (λi h f=>by
         have:=g (i+1) (by simpa using h) (by simpa using f);simpa using this) b
        refine⟨vs',?_,r⟩;simp only[Instr.fill,h0.1];rw[if_neg (by simp[h1,k.1,h.1];omega)];rw[<- q];congr 1;rw[<- Array.foldl_toList];simp
       ·cases b
theorem PW {α i:Type}{f:α->Sem i}{g:α->Option i}(j:∀ a b,g a=some b->(f a).run P w = .ok b w):∀ (l:List α) (r:List i),l.mapM g=some r->(l.mapM f).run P w = .ok r w:=by
 intro l;induction l with
 | nil=>intro r h;simp at h;subst h;rfl
 | cons a l ih=>
   intro r h;rw[List.mapM_cons]at h ⊢;cases d:g a with
   | none=>simp[d]at h
   | some b=>
     cases hl:l.mapM g with
     | none=>simp[d,hl]at h
     | some k=>
       simp[d,hl]at h;subst h;simp[j a b d,ih k hl]
theorem nC {t:TypeId}{z:List LV}(h:oY P t=some z):∃ v,(zeroValue t).run P w = .ok v w/\Ra μ ι w z v.cells/\(∀ y∈z,bf y=true):=by
 unfold oY at h;cases b:P.info? t with
 | none=>simp[b]at h
 | some i=>
   cases d:i.zero with
   | none=>simp[b,d]at h
   | some v=>
     cases f:nu v with
     | none=>simp[b,d,f]at h
     | some x=>
       simp[b,d,f]at h;obtain⟨h1,h2,h3⟩:=iG (nF (μ:=μ) (ι:=ι) (w:=w) f) h;exact⟨v,rz b d,⟨h1,h2⟩,by simpa using h3⟩
variable {c:Ctx}{e:Env}{a:Act}
def iV (a:Act) (ps:List (Nat × Operand)):List (Nat × Value):=ps.map λq=>(q.1,a.eval q.2)
theorem qd {place:Nat->Option (Nat × Nat)}{ps:List (Nat × Operand)}{ls:List (Nat × Nat × bF)}(h:partsOf c place ps=some ls)
 (g:∀ x y,x∈ps.map (·.2)->cP c x=some y->Rv μ ι w (y.ev e) (a.eval x)) :
 (iV a ps).length=(bt e ls).length /\
 ∀ (i:Nat) (h:i<(iV a ps).length) (m:i<(bt e ls).length),place ((iV a ps)[i].1)=some ((bt e ls)[i].1,(bt e ls)[i].2.1)/\Rv μ ι w (bt e ls)[i].2.2 (iV a ps)[i].2:=by
 obtain⟨h1,h2⟩:=iU h;refine⟨by simp[iV,bt,h1],λi j k=>?_⟩;have f:i<ps.length:=by simpa[iV] using j
 have hl:i<ls.length:=by simpa[bt] using k
 obtain⟨y,l,b⟩:=h2 i f;obtain⟨n,rfl⟩:=List.getElem?_eq_some_iff.1 l;simp only[iV,bt,List.getElem_map];cases d:place ps[i].1 with
 | none=>simp[d]at b
 | some q=>
   cases ho:cP c ps[i].2 with
   | none=>simp[d,ho]at b
   | some z=>
     simp[d,ho]at b;rw[<- b];exact⟨rfl,g _ _ (List.mem_map.2 ⟨ps[i],List.getElem_mem f,rfl⟩) ho⟩
theorem yt {l:List Operand}{r:List bF}(h:yu c l=some r) (d:∀ x y,x∈l->cP c x=some y->Rv μ ι w (y.ev e) (a.eval x)) :
 Ra μ ι w (r.map (·.ev e)) (l.map a.eval).toArray:=by
 obtain⟨h1,h2⟩:=iU h;refine⟨by simp[h1],λi f=>?_⟩;have b:i<l.length:=by simpa[h1] using f
 obtain⟨y,g,j⟩:=h2 i b;have:=d l[i] y (List.getElem_mem b) j;have k:i<r.length:=by omega
 obtain⟨_,rfl⟩:=List.getElem?_eq_some_iff.1 g;simpa[gD,gF,b,k] using this
theorem lH {len:Nat}{v:LV}{x:Value}{k:Nat}(d:Rv μ ι w v x) (h:idxOf len v=some k):∃ kd i,x = .int kd i/\(asIntOf x).run P w = .ok (kd,i) w/\0<=i/\i<len/\k=i.toNat:=by
 cases d<;>simp only[idxOf]at h<;>try (cases h;done)
 split at h
 ·rename_i b;cases h;exact⟨_,_,rfl,by simp[asIntOf],b.1,b.2,rfl⟩
 ·cases h
theorem Mc {v:LV}{x:Value}{n:Nat}(d:Rv μ ι w v x) (h:o8 v=some n):(∃ b c,x = .slice b n c)∨(∃ s,x = .string s/\s.size=n):=by
 cases d<;>simp only[o8]at h<;>first
  | (cases h;done)
  | (cases h;exact .inl ⟨_,_,rfl⟩)
  | (cases h;exact .inr ⟨_,rfl,rfl⟩)
end
section
variable {w:World}{w0:Bs}{μ:Mu}{ι:Io}{δ:Nat->Prop}{s s':St}{cmp:Nat->bx->Code->Prop}{c:Ctx}{e:Env}{a:Act}
theorem bind_some {α d:Type}{x:Option α}{f:α->Option d}{b:d}(h:(x >>= f)=some b):∃ a,x=some a/\f a=some b:=by
 cases x with
 | none=>cases h
 | some a=>exact⟨a,rfl,h⟩
theorem cX {α d:Type}{x:Option α}{f:α->d}{b:d}(h:x.map f=some b):∃ a,x=some a/\f a=b:=by
 cases x with
 | none=>cases h
 | some a=>exact⟨a,rfl,by simpa using h⟩
def Ho (μ:Mu) (ι:Io) (w:World) (c:Ctx) (e:Env) (a:Act) (o:Oper):Prop:=∀ x y,x∈o.op.operands.toList->cP c x=some y->Rv μ ι w (y.ev e) (a.eval x)
def dK (μ:Mu) (ι:Io) (w:World) (P:Program) (a:Act) (o:Oper) (v:LV):Prop:=∃ x,(execOp a.eval o).run P w = .ok (.value x) w/\Rv μ ι w v x
theorem L9 (I:Inv cmp w0 μ ι δ s w) {o:Oper}{t:TypeId}{x:Operand}(ho:o.op = .load t x) (l:Ho μ ι w c e a o) {n:Option Nat}(j:oc c.P t=some n) {y:bF}(p:cP c x=some y)
 {v:LV}(b:(bq.load n y).run e s=some (v,s')):s'=s/\dK μ ι w c.P a o v:=by
 have hx:=l x y (by simp[ho,Op.operands]) p;simp only[bq.run]at b;generalize y.ev e=lv at *;generalize k:a.eval x=A at *;cases hx<;>simp only at b<;>try (cases b;done)
 ·rename_i vs q d B h;obtain⟨v',h1,h2⟩:=bind_some b;cases h2;obtain⟨u,f,g⟩:=mS (w:=w) j (λi d=>⟨_,q i d,h i d⟩) h1;refine⟨rfl,u,?_,g⟩;simp[execOp,ho,k,Instr.loadAt,Instr.sureAddr,f]
 ·rename_i r;split at b
  ·rename_i m cs z;obtain⟨v',h1,h2⟩:=bind_some b;cases h2;obtain⟨u,f,g⟩:=mS (w:=w) j (I.K4 z r) h1;refine⟨rfl,u,?_,g⟩;simp[execOp,ho,k,Instr.loadAt,Instr.sureAddr,f]
  ·cases b
theorem tZ {t:TypeId}{i:cT}{x y:LV}{u v:Value}{b:Bool}(hx:Rv μ ι w x u) (j:Rv μ ι w y v) (h:Cr i x y=some b) (f:pZ c.P t=some i) (d:Nat) :
 (Op.equalIn (d+1) t u v).run c.P w = .ok b w:=by
 unfold pZ at f;cases g:c.P.underlying t with
 | none=>simp[g]at f
 | some k=>
   rw[g]at f;cases k<;>simp only[Option.some.injEq,reduceCtorEq]at f<;>subst f<;>cases hx<;>simp only[Cr,reduceCtorEq]at h<;>cases j<;>simp only[reduceCtorEq]at h
   ·cases h;simp[Op.equalIn,ru g]
   ·split at h
    ·cases h;rename_i e;subst e;simp[Op.equalIn,ru g]
    ·cases h
   ·cases h;simp[Op.equalIn,ru g]
theorem lC {t:TypeId}{d:cT}(h:pZ c.P t=some d):(isAgg t).run c.P w = .ok false w:=by
 unfold pZ at h;cases b:c.P.underlying t with
 | none=>simp[b]at h
 | some f=>
   rw[b]at h;cases f<;>simp only[Option.some.injEq,reduceCtorEq]at h<;>simp[isAgg,ru b]
theorem F5 (d:Nat) {xs ys:List LV}{us vs:Array Value}(hx:Ra μ ι w xs us) (hy:Ra μ ι w ys vs):∀ (fs:List Field) (es:List (Nat × Nat × cT)) (b:Bool),
 fs.all (fun f => f.name != "_") = true -> mY c.P fs = some es -> mw.eqFields es xs ys = some b ->
 (Op.eqFields (d+1) us vs fs).run c.P w = .ok b w:=by
 intro fs;induction fs with
 | nil=>intro es b _ hm he;simp[mY]at hm;subst hm;simp[mw.eqFields]at he;subst he;rfl
 | cons f fs ih=>
   intro es b ha hm he;unfold mY at hm;rw[List.mapM_cons]at hm;cases hs:pZ c.P f.type with
   | none=>simp[hs]at hm
   | some et=>
     cases hl:fs.mapM (λf=>(pZ c.P f.type).map λe=>(f.offset,1,e)) with
     | none=>simp[hs,hl]at hm
     | some es' =>
       simp[hs,hl]at hm;subst hm;simp only[mw.eqFields]at he;split at he
       ·rename_i x y gx gy;obtain⟨lx,rfl⟩:=List.getElem?_eq_some_iff.1 gx;obtain⟨ly,rfl⟩:=List.getElem?_eq_some_iff.1 gy;have rx:=hx.2 _ lx;have ry:=hy.2 _ ly;have lx':f.offset<us.size:=by rw[hx.1];exact lx
        have ly':f.offset<vs.size:=by rw[hy.1];exact ly
        simp only[gD,lx,gE,Option.getD_some,gF,lx',Array.getElem?_eq_getElem]at rx;simp only[gD,ly,gE,Option.getD_some,gF,ly',Array.getElem?_eq_getElem]at ry;simp only[List.all_cons,Bool.and_eq_true,bne_iff_ne,ne_eq]at ha;have BP:(part f.type us f.offset).run c.P w = .ok us[f.offset] w:=by simp[part,lC hs,lx']
        have Zd:(part f.type vs f.offset).run c.P w = .ok vs[f.offset] w:=by simp[part,lC hs,ly']
        split at he
        ·rename_i m9;have:=tZ (c:=c) rx ry m9 hs d;simp[Op.eqFields,ha.1,BP,Zd,this];exact ih es' b ha.2 hl he
        ·rename_i m9;cases he;have:=tZ (c:=c) rx ry m9 hs d;simp[Op.eqFields,ha.1,BP,Zd,this]
        ·cases he
       ·cases he
theorem Dp {xs d:List LV} : ∀ (a b:List (Nat × Nat × cT)) {r:Bool},mw.eqFields (a++b) xs d=some r->∃ r1,mw.eqFields a xs d=some r1/\(r1=true->mw.eqFields b xs d=some r)/\(r1=false->r=false):=by
 intro a;induction a with
 | nil=>intro b r h;exact⟨true,rfl,λ_=>h,λh=>by cases h⟩
 | cons p a ih=>
   obtain⟨off,n,t⟩:=p;intro b r h;simp only[List.cons_append,mw.eqFields]at h ⊢;split at h
   ·rename_i x y hx f;cases hs:Cr t x y with
    | none=>rw[hs]at h;cases h
    | some q=>
      rw[hs]at h;cases q with
      | true=>exact ih b h
      | false=>cases h;exact⟨false,rfl,λh=>(by cases h),λ_=>rfl⟩
   ·cases h
theorem zq {α:Type}{xs:List α}{off n q:Nat}(h:q<n):((xs.drop off).take n)[q]? = xs[off+q]? := by
 rw[List.getElem?_take_of_lt h,List.getElem?_drop]
theorem zE {off n:Nat}{xs d:List LV} : ∀ (l:List (Nat × Nat × cT)) {r:Bool},(∀ p∈l,p.1<n)->mw.eqFields (l.map λp=>(off+p.1,p.2)) xs d=some r ->
 mw.eqFields l ((xs.drop off).take n) ((d.drop off).take n)=some r:=by
 intro l;induction l with
 | nil=>intro r _ h;exact h
 | cons p l ih=>
   obtain⟨q,k,t⟩:=p;intro r hl h;have f:q<n:=hl _ (.head _);simp only[List.map_cons,mw.eqFields]at h ⊢;rw[zq f,zq f];split at h
   ·rename_i x y hx i;cases hs:Cr t x y with
    | none=>rw[hs]at h;cases h
    | some b=>
      rw[hs]at h;cases b with
      | true=>exact ih (λp g=>hl p (.tail _ g)) h
      | false=>exact h
   ·cases h
theorem Bf {P:Program}{n:Nat} : ∀ (gs:List Field) {l:List (Nat × Nat × cT)},mY P gs=some l->(∀ g∈gs,g.offset<n)->∀ p∈l,p.1<n:=by
 intro gs;induction gs with
 | nil=>intro l h _ p b;simp[mY]at h;subst h;cases b
 | cons g gs ih=>
   intro l h i p b;unfold mY at h;rw[List.mapM_cons]at h;cases hs:pZ P g.type with
   | none=>simp[hs]at h
   | some j=>
     cases hl:gs.mapM (λf=>(pZ P f.type).map λe=>(f.offset,1,e)) with
     | none=>simp[hs,hl]at h
     | some k =>
       simp[hs,hl]at h;subst h;rcases List.mem_cons.1 b with rfl | b
       ·exact i g (.head _)
       ·exact ih hl (λg d=>i g (.tail _ d)) p b
theorem JL {xs:List LV}{us:Array Value}(h:Ra μ ι w xs us) (off n:Nat):Ra μ ι w ((xs.drop off).take n) (us.extract off (off+n)):=by
 have hs:=h.1;refine⟨by simp only[Array.size_extract,List.length_take,List.length_drop];omega,λi b=>?_⟩;simp only[List.length_take,List.length_drop]at b;have:=h.2 (off+i) om;rw[gD,zq om,<- gD,gF,Array.getElem?_extract,if_pos om,<- gF];exact this
theorem wL {P:Program}{f:Field}{a:List (Nat × Nat × cT)}(h:RO P f=some a):(∃ e,pZ P f.type=some e/\a=[(f.offset,1,e)]) ∨
 ∃ gs n l, P.underlying f.type = some (.struct gs) /\ gU P f.type = some n /\ P.stoodInHeld f.type = false /\ gs.toList.all (fun g => g.name != "_") = true /\ (∀ g ∈ gs.toList, g.offset < n) /\ mY P gs.toList = some l /\ a = l.map (fun p => (f.offset + p.1, p.2)) := by
 unfold RO at h;split at h
 ·rename_i e he;cases h;exact .inl ⟨e,he,rfl⟩
 ·split at h
  ·rename_i gs n hu hn;split at h
   ·cases h
   ·rename_i hc;simp only[Bool.or_eq_true,not_or,Bool.not_eq_true,Bool.not_eq_false']at hc;obtain⟨l,hl,rfl⟩:=cX h;have h2:=hc.2;simp only[List.all_eq_true,Bool.and_eq_true]at h2;exact .inr ⟨gs,n,l,hu,hn,hc.1,List.all_eq_true.2 λg hg=>(h2 g hg).1,λg hg=>Nat.le_of_ble_eq_true (h2 g hg).2,hl,rfl⟩
  ·cases h
theorem oM (d:Nat) {xs ys:List LV}{us vs:Array Value}(hx:Ra μ ι w xs us) (hy:Ra μ ι w ys vs):∀ (fs:List Field) (es:List (Nat × Nat × cT)) (b:Bool),
 fs.all (fun f => f.name != "_") = true -> nj c.P fs = some es -> mw.eqFields es xs ys = some b -> (Op.eqFields (d + 2) us vs fs).run c.P w = .ok b w := by
 intro fs;induction fs with
 | nil=>intro es b _ hm he;simp[nj]at hm;subst hm;simp[mw.eqFields]at he;subst he;rfl
 | cons f fs ih=>
   intro es b ha hm he;simp only[nj]at hm;split at hm
   ·rename_i a Xh;split at hm
    ·rename_i es' hfs;cases hm;obtain⟨r1,h1,h2,h3⟩:=Dp a es' he;simp only[List.all_cons,Bool.and_eq_true,bne_iff_ne,ne_eq]at ha;have key:∃ u v,(part f.type us f.offset).run c.P w = .ok u w/\(part f.type vs f.offset).run c.P w = .ok v w/\(Op.equalIn (d+2) f.type u v).run c.P w = .ok r1 w:=by
      rcases wL Xh with⟨et,hs,rfl⟩ | ⟨gs,n,l,hu,hn,gV,dD,dH,hl,rfl⟩
      ·simp only[mw.eqFields]at h1;split at h1
       ·rename_i x y gx gy;obtain⟨lx,rfl⟩:=List.getElem?_eq_some_iff.1 gx;obtain⟨ly,rfl⟩:=List.getElem?_eq_some_iff.1 gy;have rx:=hx.2 _ lx;have ry:=hy.2 _ ly;have lx':f.offset<us.size:=by rw[hx.1];exact lx
        have ly':f.offset<vs.size:=by rw[hy.1];exact ly
        simp only[gD,lx,gE,Option.getD_some,gF,lx',Array.getElem?_eq_getElem]at rx;simp only[gD,ly,gE,Option.getD_some,gF,ly',Array.getElem?_eq_getElem]at ry;refine⟨us[f.offset],vs[f.offset],by simp[part,lC hs,lx'],by simp[part,lC hs,ly'],?_⟩;split at h1
        ·rename_i m9;cases h1;exact tZ (c:=c) rx ry m9 hs (d+1)
        ·rename_i m9;cases h1;exact tZ (c:=c) rx ry m9 hs (d+1)
        ·cases h1
       ·cases h1
      ·have hp:∀ zs:Array Value,(part f.type zs f.offset).run c.P w = .ok (.agg (zs.extract f.offset (f.offset+n))) w:=λzs=>by
        simp[part,isAgg,ru hu,wT hn]
       have hf:c.P.fieldsOf f.type=gs:=by simp[Program.fieldsOf,hu]
       refine⟨_,_,hp us,hp vs,?_⟩;rw[run_equalIn_struct (P:=c.P) w (d+1) f.type _ _ (by rw[hf];exact hu) gV,hf];exact F5 (c:=c) d (JL hx f.offset n) (JL hy f.offset n) gs.toList l r1 dD hl (zE l (Bf _ hl dH) h1)
     obtain⟨u,v,k1,k2,k3⟩:=key;cases r1 with
     | true=>
       simp[Op.eqFields,ha.1,k1,k2,k3];exact ih es' b ha.2 hfs (h2 rfl)
     | false=>
       obtain rfl:=h3 rfl;simp[Op.eqFields,ha.1,k1,k2,k3]
    ·cases hm
   ·cases hm
theorem B5 {t:TypeId}{u v:Value}{b:Bool}(h:(Op.equalIn 10000 t u v).run c.P w = .ok b w):(Op.equal t u v).run c.P w = .ok b w:=h
theorem KW {t:TypeId}{u v:Value}{b:Bool}(n:Nat) (h:∀ d,(Op.equalIn (d+1) t u v).run c.P w = .ok b w):(Op.equalIn (n+1) t u v).run c.P w = .ok b w:=h n
theorem uM {t:TypeId}{u v:Value}{b:Bool}{ox oy:Operand}{op:BinOp}(f:op = .eql∨op = .neq) (d:(eqGuard op t ox oy u v).run c.P w = .ok () w)
 (h1:binOp .eql t u v=(do pure (.bool (<- Op.equal t u v)))) (h2:binOp .neq t u v=(do pure (.bool (!(<- Op.equal t u v))))) (h:(Op.equalIn 10000 t u v).run c.P w = .ok b w) :
 ((do eqGuard op t ox oy u v;binOp op t u v):Sem Value).run c.P w = .ok (.bool (if op = .eql then b else !b)) w:=by
 rcases f with rfl | rfl
 ·rw[Sem.run_bind,d,Result.andThen_ok,h1,Sem.run_bind,B5 h];rfl
 ·rw[Sem.run_bind,d,Result.andThen_ok,h2,Sem.run_bind,B5 h];rfl
theorem eq_rel {t:TypeId}{q:cT}{x y:LV}{u v:Value}{b:Bool}(hx:Rv μ ι w x u) (m:Rv μ ι w y v) (f:M1 c.P t=some q) (h:mw q x y=some b) (ox oy:Operand) (op:BinOp) (i:op = .eql∨op = .neq)
 (A:∀ k,c.P.underlying t≠some (.int k)) (j:c.P.underlying t≠some .string) :
 ((do eqGuard op t ox oy u v;binOp op t u v):Sem Value).run c.P w = .ok (.bool (if op = .eql then b else !b)) w:=by
 unfold M1 at f;cases g:c.P.underlying t with
 | none=>simp[g]at f
 | some B=>
   rw[g]at f;cases B<;>simp only[reduceCtorEq]at f
   case int k=>exact absurd g (A k)
   case string=>exact absurd g j
   case bool=>
    have l:=f;unfold pZ at l;rw[g]at l;simp only[Option.some.injEq]at l;subst l;cases hx<;>simp only[mw,Cr,reduceCtorEq]at h<;>cases m<;>simp only[reduceCtorEq]at h;cases h;exact uM i (by rcases i with rfl | rfl<;>simp[eqGuard]) rfl rfl (KW 9999 (by intro d;unfold Op.equalIn;simp[ru g]))
   case struct fs=>
    split at f
    ·cases f
    ·rename_i j;simp only[Bool.or_eq_true,not_or,Bool.not_eq_true]at j;split at f
     ·rename_i C;obtain⟨D,E,rfl⟩:=cX f;cases hx<;>simp only[mw,Cr,reduceCtorEq]at h<;>cases m<;>simp only[reduceCtorEq]at h;rename_i xs F G n I vs H p;have r:c.P.fieldsOf t=fs:=by simp[Program.fieldsOf,g]
      have z:=run_equalIn_struct (P:=c.P) w 9999 t F vs (by rw[r];exact g) j.1;rw[r,oM (c:=c) 9997 ⟨G,n⟩ ⟨H,p⟩ fs.toList D b C E h]at z;exact uM i (run_eqGuard_agg w _ _ _ _ _ _ j.2) rfl rfl z
     ·cases f
   all_goals
    cases f;cases hx<;>simp only[mw,Cr,reduceCtorEq]at h<;>cases m<;>simp only[reduceCtorEq]at h<;>cases h<;>
     exact uM i (by rcases i with rfl | rfl<;>simp[eqGuard]) rfl rfl (KW 9999 (by intro d;unfold Op.equalIn;simp[ru g]))
end
section
variable {w:World}{w0:Bs}{μ:Mu}{ι:Io}{δ:Nat->Prop}{s s':St}{cmp:Nat->bx->Code->Prop}{c:Ctx}{e:Env}{a:Act}{o:Oper}{v:LV}
theorem BF {x:Operand}(ho:o.op = .move x∨o.op = .assign x) (b:Ho μ ι w c e a o) {y:bF}(d:cP c x=some y) (f:(bq.mv y).run e s=some (v,s')) :
 s'=s/\dK μ ι w c.P a o v:=by
 cases f;have hx:=b x y (by rcases ho with ho | ho<;>simp[ho,Op.operands]) d
 exact⟨rfl,a.eval x,by rcases ho with ho | ho<;>simp[execOp,ho],hx⟩
theorem L7 {k x f:Operand}(ho:o.op = .pick k x f) (g:Ho μ ι w c e a o) {d y h:bF}(m:cP c k=some d) (n:cP c x=some y) (i:cP c f=some h)
 (j:(bq.pick d y h).run e s=some (v,s')):s'=s/\dK μ ι w c.P a o v:=by
 have h1:=g k d (by simp[ho,Op.operands]) m;have h2:=g x y (by simp[ho,Op.operands]) n;have h3:=g f h (by simp[ho,Op.operands]) i;simp only[bq.run]at j;generalize d.ev e=lk at *;generalize l:a.eval k=p at *;cases h1<;>simp only[reduceCtorEq]at j;cases j;rename_i b;refine⟨rfl,_,by simp[execOp,ho,l,asBool];rfl,?_⟩;cases b
 ·exact h3
 ·exact h2
theorem HZ {t:TypeId}{ps:Array (Nat × Operand)}(ho:o.op = .build t ps) (H:Ho μ ι w c e a o) {B:bq}(d:bH c o=some B) (j:B.run e s=some (v,s')) :
 s'=s/\dK μ ι w c.P a o v:=by
 simp only[bH,ho]at d;obtain⟨z,I,d⟩:=bind_some d;obtain⟨R,C,D,_⟩:=nC (μ:=μ) (ι:=ι) (w:=w) I;have E:∀ x y,x∈ps.toList.map (·.2)->cP c x=some y->Rv μ ι w (y.ev e) (a.eval x):=λx y hx J=>H x y (by simpa[ho,Op.operands] using hx) J;have F:(ps.map λ(i,x)=>(i,a.eval x)).toList=iV a ps.toList:=by simp[iV]
 cases m:c.P.underlying t with
 | none=>simp[m]at d
 | some K=>
   rw[m]at d;cases K<;>simp only[reduceCtorEq]at d
   case struct fs=>
    obtain⟨p,L,d⟩:=bind_some d;obtain⟨ls,q,d⟩:=bind_some d;cases d;simp only[bq.run]at j;obtain⟨r,u,j⟩:=bind_some j;cases j;obtain⟨h1,h2⟩:=qd (μ:=μ) (ι:=ι) (w:=w) (e:=e) (a:=a) q E;obtain⟨k,A,l⟩:=uK _ _ _ _ _ D h1 h2 u;have M:(fs.mapM λf=>do pure (f.offset,<- sizeOf f.type):Sem _).run c.P w = .ok p.toArray w:=by
     rw[Array.mapM_eq_mapM_toList,Sem.run_map,PW (g:=λf=>do some (f.offset,<- gU c.P f.type)) (λf b h=>by
      obtain⟨n,N,h⟩:=bind_some h;cases h;simp[wT N]) _ _ L]
     rfl
    have O:(λi:Nat=>(p.toArray[i]? : Option (Nat × Nat)))=(λi:Nat=>p[i]?):=by funext i;simp
    refine⟨rfl, .agg k,?_, .agg l.1 l.2⟩;simp only[execOp,ho,Instr.build,Sem.run_bind,C,Result.andThen_ok,ru m,M];simp only[F,O,A];simp
   case array n S=>
    obtain⟨G,Q,d⟩:=bind_some d;obtain⟨ls,q,d⟩:=bind_some d;cases d;simp only[bq.run]at j;obtain⟨r,u,j⟩:=bind_some j;cases j;obtain⟨h1,h2⟩:=qd (μ:=μ) (ι:=ι) (w:=w) (e:=e) (a:=a) q E;obtain⟨k,A,l⟩:=uK (place:=λi=>some (i*G,G)) _ _ _ _ _ D h1 h2 u;refine⟨rfl, .agg k,?_, .agg l.1 l.2⟩;simp only[execOp,ho,Instr.build,Sem.run_bind,C,Result.andThen_ok,ru m,wT Q];simp only[F,A];simp
theorem E0 {x:Operand}(ho:o.op = .nilCheck x) (i:Ho μ ι w c e a o) {y:bF}(j:cP c x=some y) (b:(bq.vD y).run e s=some (v,s')):s'=s/\dK μ ι w c.P a o v:=by
 have hx:=i x y (by simp[ho,Op.operands]) j;unfold bq.run at b;dsimp only at b;generalize y.ev e=lv at *;generalize d:a.eval x=p at *;cases hx<;>try (cases b;done)
 case aY vs k l m h=>cases b;exact⟨rfl,_,by simp only[execOp,ho,d];rfl, .aY vs k l m h⟩
 case aO g=>cases b;exact⟨rfl,_,by simp only[execOp,ho,d];rfl, .aO g⟩
 case fn f q r t u h1 h2 h3 n=>
  cases f<;>simp only[reduceCtorEq]at b;cases b;exact⟨rfl,_,by simp only[execOp,ho,d];rfl, .fn h1 h2 h3 n⟩
 case rG g=>cases b;exact⟨rfl,_,by simp only[execOp,ho,d];rfl, .rG g⟩
theorem G8 {t:TypeId}{op:BinOp}{x y:ByteArray}(h:G9 op x y=some v):∃ u,(binOp op t (.string x) (.string y)).run c.P w = .ok u w/\Rv μ ι w v u:=by
 cases op<;>simp only[G9]at h<;>first
  | (cases h;done)
  | (split at h;cases h;rename_i h0;cases h;refine⟨_,by simp only[binOp,Op.stringOp];rw[if_neg h0];rfl,by constructor⟩;done)
  | (cases h;refine⟨_,by simp only[binOp,Op.stringOp];rfl,by constructor⟩;done)
theorem Nh {t:TypeId}{op:BinOp}{x y:LV}{u v':Value}(hx:Rv μ ι w x u) (g:Rv μ ι w y v') (h:kr op x y=some v) :
 ∃ r,(binOp op t u v').run c.P w = .ok r w/\Rv μ ι w v r/\∀ ox oy,(eqGuard op t ox oy u v').run c.P w = .ok () w:=by
 cases hx<;>simp only[kr,reduceCtorEq]at h<;>cases g<;>simp only[reduceCtorEq]at h
 ·rename_i k n i j;have b:∀ ox oy,(eqGuard op t ox oy (.int k n) (.int i j)).run c.P w = .ok () w:=λ_ _=>by cases op<;>simp[eqGuard]
  split at h
  ·split at h
   ·cases h
   ·rename_i h0;cases h;exact⟨_,by simp only[binOp,Op.shift];rw[if_neg h0];rfl, .int _ _,b⟩
  ·split at h
   ·cases h
   ·rename_i h0;cases h;exact⟨_,by simp only[binOp,Op.shift];rw[if_neg h0];rfl, .int _ _,b⟩
  ·rename_i h1 h2;split at h
   ·rename_i e;subst e;obtain⟨r,d,f⟩:=H9 (P:=c.P) (w:=w) (μ:=μ) (ι:=ι) (t:=t) h ⟨h1,h2⟩;exact⟨r,d,f,b⟩
   ·cases h
 ·obtain⟨r,d,f⟩:=G8 (c:=c) (w:=w) (μ:=μ) (ι:=ι) (t:=t) h;exact⟨r,d,f,λ_ _=>by cases op<;>simp[eqGuard]⟩
theorem PZ {op:BinOp}{t A:TypeId}{x y:Operand}(ho:o.op = .binOp op t x y A) (q:Ho μ ι w c e a o) {l:bq}(d:bH c o=some l) (i:l.run e s=some (v,s')) :
 s'=s/\dK μ ι w c.P a o v:=by
 simp only[bH,ho]at d;obtain⟨m,B,d⟩:=bind_some d;obtain⟨n,C,d⟩:=bind_some d;have hx:=q x m (by simp[ho,Op.operands]) B;have u:=q y n (by simp[ho,Op.operands]) C;have key:(l = .bin op m n)->s'=s/\dK μ ι w c.P a o v:=by
  rintro rfl;simp only[bq.run]at i;obtain⟨v',h1,h2⟩:=bind_some i;cases h2;obtain⟨r,D,E,F⟩:=Nh (c:=c) (t:=t) hx u h1;refine⟨rfl,r,?_,E⟩;simp[execOp,ho,F,D]
 have g:∀ h,uu op=false->M1 c.P t=some h->(∀ k,c.P.underlying t≠some (.int k))->c.P.underlying t≠some .string->l = .eq (Kt op) h m n->s'=s/\dK μ ι w c.P a o v:=by
  rintro h G f H I rfl;simp only[bq.run]at i;obtain⟨b,h1,h2⟩:=bind_some i;cases h2;have z:op = .eql∨op = .neq:=by cases op<;>simp[uu]at G ⊢
  have:=eq_rel (c:=c) hx u f h1 x y op z H I;refine⟨rfl,_,by simp only[Sem.run_bind]at this;simp only[execOp,ho,Sem.run_bind];rw[this];rfl,?_⟩;rcases z with rfl | rfl<;>exact .bool _
 cases j:c.P.underlying t with
 | none=>
   rw[j]at d;simp only at d;split at d
   ·cases d
   ·rename_i p;obtain⟨h,f,d⟩:=bind_some d;split at d
    ·cases d;cases i
    cases d;exact g h (by simpa using p) f (by simp[j]) (by simp[j]) rfl
 | some J=>
   rw[j]at d;cases J<;>simp only at d
   case int=>cases d;exact key rfl
   case string=>cases d;exact key rfl
   all_goals
    split at d
    ·cases d
    ·rename_i p;obtain⟨h,f,d⟩:=bind_some d;split at d
     ·cases d;cases i
     cases d;exact g h (by simpa using p) f (by simp[j]) (by simp[j]) rfl
theorem Uo {op:UnOp}{t:TypeId}{x:Operand}(ho:o.op = .unOp op t x) (f:Ho μ ι w c e a o) {y:bF}(g:cP c x=some y) (b:(bq.un op y).run e s=some (v,s')):s'=s/\dK μ ι w c.P a o v:=by
 have hx:=f x y (by simp[ho,Op.operands]) g;simp only[bq.run]at b;generalize y.ev e=lv at *;generalize d:a.eval x=h at *;obtain⟨v',h1,h2⟩:=bind_some b;cases h2;cases hx<;>simp only[iI,reduceCtorEq]at h1
 ·cases op<;>simp only[reduceCtorEq]at h1;cases h1;exact⟨rfl,_,by simp only[execOp,ho,d,Op.unary];rfl, .bool _⟩
 ·cases op<;>simp only[reduceCtorEq]at h1;cases h1;exact⟨rfl,_,by simp only[execOp,ho,d,Op.unary,Op.intArith];rfl, .int _ _⟩
end
section
variable {w:World}{w0:Bs}{μ:Mu}{ι:Io}{δ:Nat->Prop}{s s':St}{cmp:Nat->bx->Code->Prop}{c:Ctx}{e:Env}{a:Act}{o:Oper}{v:LV}
theorem CN {t dst:TypeId}{x:Operand}(ho:o.op = .convert t dst x) (f:Ho μ ι w c e a o) {k:IntKind}(g:c.P.underlying dst=some (.int k)) (h:∃ d,c.P.underlying t=some d)
 {y:bF}(i:cP c x=some y) (b:(bq.k9 k y).run e s=some (v,s')):s'=s/\dK μ ι w c.P a o v:=by
 have hx:=f x y (by simp[ho,Op.operands]) i;obtain⟨d,j⟩:=h;unfold bq.run at b;dsimp only at b;generalize y.ev e=lv at *;generalize l:a.eval x=m at *;cases hx<;>try (cases b;done)
 cases b;refine⟨rfl,_,by simp only[execOp,ho,l,convert,Sem.run_bind,ru j,ru g,Result.andThen_ok,Conv.intToInt];rfl, .int _ _⟩
theorem AH {t dst:TypeId}{x:Operand}(ho:o.op = .convert t dst x) (f:Ho μ ι w c e a o) (g:c.P.underlying dst=some .string) (h:∃ d,c.P.underlying t=some d)
 {y:bF}(i:cP c x=some y) (b:(bq.uP y).run e s=some (v,s')):s'=s/\dK μ ι w c.P a o v:=by
 have hx:=f x y (by simp[ho,Op.operands]) i;obtain⟨d,j⟩:=h;unfold bq.run at b;dsimp only at b;generalize y.ev e=lv at *;generalize k:a.eval x=l at *;cases hx<;>try (cases b;done)
 cases b;refine⟨rfl,_,by simp only[execOp,ho,k,convert,Sem.run_bind,ru j,ru g,Result.andThen_ok];rfl, .str _⟩
theorem L8 {f:Fn}{xs b:Array Operand}(ho:o.op = .makeFunc f xs b) (g:Ho μ ι w c e a o) {h i:List bF}(hx:yu c xs.toList=some h) (d:yu c b.toList=some i)
 (k:(bq.uk f h i).run e s=some (v,s')):s'=s/\dK μ ι w c.P a o v:=by
 cases k;have j:o.op.operands.toList=xs.toList++b.toList:=by rw[ho];simp[Op.operands]
 have h1:=yt (μ:=μ) (ι:=ι) (w:=w) (e:=e) (a:=a) hx (λx y hx d=>g x y (by rw[j];exact List.mem_append_left _ hx) d);have h2:=yt (μ:=μ) (ι:=ι) (w:=w) (e:=e) (a:=a) d (λx y hx d=>g x y (by rw[j];exact List.mem_append_right _ hx) d);refine⟨rfl, .func f (xs.map a.eval) (b.map a.eval),by simp[execOp,ho,Instr.makeFunc],?_⟩;have l:(xs.toList.map a.eval).toArray=xs.map a.eval:=by apply Array.ext';simp
 have m:(b.toList.map a.eval).toArray=b.map a.eval:=by apply Array.ext';simp
 rw[l]at h1;rw[m]at h2;exact .fn h1.1 h2.1 h1.2 h2.2
theorem HY {st:TypeId}{x:Operand}{f:Nat}(ho:o.op = .fieldAddr st x f) (k:Ho μ ι w c e a o) {fs:Array Field}(d:c.P.underlying st=some (.struct fs)) {fl:Field}(g:fs[f]? = some fl)
 {n:Nat}(i:gU c.P fl.type=some n) (h0:n≠0) {y:bF}(l:cP c x=some y) (b:(bq.sY fl.offset y).run e s=some (v,s')):s'=s/\dK μ ι w c.P a o v:=by
 have hx:=k x y (by simp[ho,Op.operands]) l;unfold bq.run at b;dsimp only at b;generalize y.ev e=lv at *;generalize j:a.eval x=t at *;cases hx<;>try (cases b;done)
 case aY vs m p q h=>
  cases b;refine⟨rfl,_,by simp only[execOp,ho,j,Instr.fieldAt,Sem.run_bind,ru d,Result.andThen_ok,g,Instr.sureAddr,Sem.run_pure,fieldPlace,wT i,h0,if_false,jz];rfl,?_⟩;rw[Nat.add_assoc];exact .aY vs m p q h
 case aO r=>
  cases b;refine⟨rfl,_,by simp only[execOp,ho,j,Instr.fieldAt,Sem.run_bind,ru d,Result.andThen_ok,g,Instr.sureAddr,Sem.run_pure,fieldPlace,wT i,h0,if_false,jz];rfl,?_⟩;rw[Nat.add_assoc];exact .aO r
theorem HX {st:TypeId}{x:Operand}{f:Nat}(ho:o.op = .field st x f) (d:Ho μ ι w c e a o) {fs:Array Field}(g:c.P.underlying st=some (.struct fs)) {fl:Field}(i:fs[f]? = some fl)
 {n:Option Nat}(j:oc c.P fl.type=some n) {y:bF}(k:cP c x=some y) (b:(bq.field fl.offset n y).run e s=some (v,s')):s'=s/\dK μ ι w c.P a o v:=by
 have hx:=d x y (by simp[ho,Op.operands]) k;unfold bq.run at b;dsimp only at b;generalize y.ev e=lv at *;generalize l:a.eval x=q at *;cases hx<;>try (cases b;done)
 case agg hl h=>
  obtain⟨v',h1,h2⟩:=bind_some b;cases h2;obtain⟨u,m,p⟩:=EJ (w:=w) j hl h h1;exact⟨rfl,u,by simp[execOp,ho,l,Instr.field,ru g,i,asAgg,m],p⟩
theorem HW {t:TypeId}{x i:Operand}(ho:o.op = .indexAddr t x i) (l:Ho μ ι w c e a o) {m:TypeId}(q:c.P.underlying t=some (.slice m)) {n:Nat}(r:gU c.P m=some n)
 {y d:bF}(D:cP c x=some y) (E:cP c i=some d) (b:(bq.wj n y d).run e s=some (v,s')):s'=s/\dK μ ι w c.P a o v:=by
 have hx:=l x y (by simp[ho,Op.operands]) D;have u:=l i d (by simp[ho,Op.operands]) E;unfold bq.run at b;dsimp only at b;generalize y.ev e=lv at *;generalize d.ev e=L at *;generalize A:a.eval x=M at *;generalize B:a.eval i=N at *;cases hx<;>try (cases b;done)
 case aF vs F G H h I=>
  obtain⟨k,h1,h2⟩:=bind_some b;cases h2;obtain⟨kd,z,rfl,f,g,j,rfl⟩:=lH (P:=c.P) (w:=w) u h1;refine⟨rfl,_,by simp only[execOp,ho,A,B,Instr.indexAt,Sem.run_bind,f,ru q,Result.andThen_ok,Sem.run_pure,Sem.run_ite,g,j,and_self,if_true,wT r,jz];rfl,?_⟩;exact .aY vs F G H h
 case aE id off len O cap p C J Q I K=>
  obtain⟨k,h1,h2⟩:=bind_some b;split at h2
  ·cases h2;obtain⟨kd,z,rfl,f,g,j,rfl⟩:=lH (P:=c.P) (w:=w) u h1;refine⟨rfl,_,by simp only[execOp,ho,A,B,Instr.indexAt,Sem.run_bind,f,ru q,Result.andThen_ok,Sem.run_pure,Sem.run_ite,g,j,and_self,if_true,wT r,jz];rfl,?_⟩;rw[K om,Nat.add_assoc];exact .aO J
  ·cases h2
theorem AG {t:TypeId}{x i:Operand}(ho:o.op = .indexAddr t x i) (l:Ho μ ι w c e a o) {m:TypeId}{len:Nat}(p:c.P.underlying t=some (.array len m)) {n:Nat}(q:gU c.P m=some n)
 {y d:bF}(B:cP c x=some y) (C:cP c i=some d) (b:(bq.uy n len y d).run e s=some (v,s')):s'=s/\dK μ ι w c.P a o v:=by
 have hx:=l x y (by simp[ho,Op.operands]) B;have r:=l i d (by simp[ho,Op.operands]) C;unfold bq.run at b;dsimp only at b;generalize y.ev e=lv at *;generalize d.ev e=H at *;generalize u:a.eval x=I at *;generalize A:a.eval i=J at *;cases hx<;>try (cases b;done)
 case aY vs D E F h=>
  obtain⟨k,h1,h2⟩:=bind_some b;cases h2;obtain⟨kd,z,rfl,f,g,j,rfl⟩:=lH (P:=c.P) (w:=w) r h1;refine⟨rfl,_,by simp only[execOp,ho,u,A,Instr.indexAt,Instr.sureAddr,Sem.run_bind,f,ru p,Result.andThen_ok,Sem.run_pure,Sem.run_ite,g,j,and_self,if_true,wT q,jz];rfl,?_⟩;rw[Nat.add_assoc];exact .aY vs D E F h
 case aO G=>
  obtain⟨k,h1,h2⟩:=bind_some b;cases h2;obtain⟨kd,z,rfl,f,g,j,rfl⟩:=lH (P:=c.P) (w:=w) r h1;refine⟨rfl,_,by simp only[execOp,ho,u,A,Instr.indexAt,Instr.sureAddr,Sem.run_bind,f,ru p,Result.andThen_ok,Sem.run_pure,Sem.run_ite,g,j,and_self,if_true,wT q,jz];rfl,?_⟩;rw[Nat.add_assoc];exact .aO G
theorem AF {t:TypeId}{x i:Operand}(ho:o.op = .index t x i) (j:Ho μ ι w c e a o) {f:TypeId}{len:Nat}(m:c.P.underlying t=some (.array len f)) {n:Nat}(p:gU c.P f=some n)
 {l:Option Nat}(g:oc c.P f=some l) {y b:bF}(q:cP c x=some y) (r:cP c i=some b) (d:(bq.ux n len l y b).run e s=some (v,s')):s'=s/\dK μ ι w c.P a o v:=by
 have hx:=j x y (by simp[ho,Op.operands]) q;have A:=j i b (by simp[ho,Op.operands]) r;unfold bq.run at d;dsimp only at d;generalize y.ev e=lv at *;generalize b.ev e=J at *;generalize B:a.eval x=K at *;generalize C:a.eval i=L at *;cases hx<;>try (cases d;done)
 case agg hl h=>
  obtain⟨k,h1,h2⟩:=bind_some d;obtain⟨v',h3,D⟩:=bind_some h2;cases D;obtain⟨kd,z,rfl,E,F,G,rfl⟩:=lH (P:=c.P) (w:=w) A h1;obtain⟨u,H,I⟩:=EJ (w:=w) g hl h h3;refine⟨rfl,u,?_,I⟩;simp only[execOp,ho,B,C,Instr.index,Sem.run_bind,E,ru m,Result.andThen_ok,Sem.run_ite,F,G,and_self,if_true,wT p,H];rfl
theorem AE {t:TypeId}{x i:Operand}(ho:o.op = .index t x i) (g:Ho μ ι w c e a o) (j:c.P.underlying t=some .string)
 {y d:bF}(l:cP c x=some y) (m:cP c i=some d) (f:(bq.qq y d).run e s=some (v,s')):s'=s/\dK μ ι w c.P a o v:=by
 have hx:=g x y (by simp[ho,Op.operands]) l;have n:=g i d (by simp[ho,Op.operands]) m;unfold bq.run at f;dsimp only at f;generalize y.ev e=lv at *;generalize d.ev e=B at *;generalize p:a.eval x=C at *;generalize q:a.eval i=D at *;cases hx<;>try (cases f;done)
 case str b=>
  obtain⟨k,h1,h2⟩:=bind_some f;cases h2;obtain⟨kd,z,rfl,r,u,E,rfl⟩:=lH (P:=c.P) (w:=w) n h1;have h:z.toNat<b.size:=by omega
  have A:b[z.toNat]? = some (b.data.getD z.toNat 0):=by
   rw[show b[z.toNat]? = some b[z.toNat] from by simp[h]];congr 1;have:z.toNat<b.data.size:=h;simp only[gF,this,getElem?_pos,Option.getD_some];rfl
  refine⟨rfl, .int .u8 (b.data.getD z.toNat 0).toNat,?_, .int _ _⟩;simp only[execOp,ho,p,q,Instr.index,Sem.run_bind,r,ru j,Result.andThen_ok,u,if_true,A];rfl
theorem PY {x:Operand}{i:Nat}(ho:o.op = .extract x i) (g:Ho μ ι w c e a o) {y:bF}(j:cP c x=some y) (b:(bq.ext y i).run e s=some (v,s')):s'=s/\dK μ ι w c.P a o v:=by
 have hx:=g x y (by simp[ho,Op.operands]) j;unfold bq.run at b;dsimp only at b;generalize y.ev e=lv at *;generalize k:a.eval x=l at *;cases hx<;>try (cases b;done)
 case cE cs vs hl h=>
  obtain⟨v',h1,h2⟩:=bind_some b;cases h2;obtain⟨d,rfl⟩:=List.getElem?_eq_some_iff.1 h1;have f:i<vs.size:=by rw[hl];exact d
  have:=h i d;refine⟨rfl,vs[i],by simp[execOp,ho,k,Instr.extract,f],?_⟩;simpa[gD,gF,d,f] using this
theorem eB {d max:Nat}{b:Option Operand}{f:Option bF}{k:Nat}(g:sr c b=some f) (j:∀ x y,b=some x->cP c x=some y->Rv μ ι w (y.ev e) (a.eval x))
 (h:mB d max (f.map (·.ev e))=some k):(b=none/\k=d)∨(∃ x kd z,b=some x/\a.eval x = .int kd z/\0<=z/\z<=max/\k=z.toNat):=by
 cases b with
 | none=>cases g;cases h;exact .inl ⟨rfl,rfl⟩
 | some x=>
   obtain⟨y,l,rfl⟩:=cX g;have hx:=j x y rfl l;simp only[Option.map_some]at h;generalize y.ev e=lv at *;generalize m:a.eval x=n at *;cases hx<;>simp only[mB,reduceCtorEq]at h;split at h
   ·rename_i i;cases h;exact .inr ⟨x,_,_,rfl,m,i.1,i.2,rfl⟩
   ·cases h
theorem eA {YA:Bool}{len cap:Nat}{f g:Option Operand}{h l:Nat}
 (n:(g=none/\h=len)∨(∃ x kd z,g=some x/\a.eval x = .int kd z/\0<=z/\z<=len/\h=z.toNat)) (r:len<=cap)
 (hl:(f=none/\l=0)∨(∃ x kd z,f=some x/\a.eval x = .int kd z/\0<=z/\z<=h/\l=z.toNat)) :
 (Instr.sliceBounds YA len cap (f.map a.eval) (g.map a.eval) none).run c.P w = .ok (l,h,cap) w/\l<=h/\h<=len:=by
 have i:∀ z:Int,z<=len->z<=cap:=λz t=>by omega
 rcases n with⟨rfl,rfl⟩ | ⟨x,kd,z,rfl,hx,j,k,rfl⟩<;>rcases hl with⟨rfl,rfl⟩ | ⟨u,p,q,rfl,m,b,d,rfl⟩
 ·simp[Instr.sliceBounds]
 ·refine⟨?_,by omega,by omega⟩;simp[Instr.sliceBounds,Instr.sliceBound,m,asIntOf,b,d]
 ·refine⟨?_,by omega,by omega⟩;simp[Instr.sliceBounds,Instr.sliceBound,hx,asIntOf,j,i z k]
 ·refine⟨?_,by omega,by omega⟩;have h1:q<=max z 0:=by omega
  simp[Instr.sliceBounds,Instr.sliceBound,hx,m,asIntOf,j,i z k,b,h1]
end
section
variable {w:World}{w0:Bs}{μ:Mu}{ι:Io}{δ:Nat->Prop}{s s':St}{cmp:Nat->bx->Code->Prop}{c:Ctx}{e:Env}{a:Act}{o:Oper}{v:LV}
theorem HU {t:TypeId}{x:Operand}{L f:Option Operand}(ho:o.op = .slice t x L f none) (M:Ho μ ι w c e a o) {Q:TypeId}(B:c.P.underlying t=some (.slice Q)) {n:Nat}(C:gU c.P Q=some n)
 {y:bF}{R S:Option bF}(z:cP c x=some y) (D:sr c L=some R) (E:sr c f=some S) (d:(bq.slice n y R S).run e s=some (v,s')):s'=s/\dK μ ι w c.P a o v:=by
 have hx:=M x y (by simp[ho,Op.operands]) z;have F:∀ x y,L=some x->cP c x=some y->Rv μ ι w (y.ev e) (a.eval x):=λx y h z=>M x y (by subst h;simp[ho,Op.operands]) z;have G:∀ x y,f=some x->cP c x=some y->Rv μ ι w (y.ev e) (a.eval x):=λx y h z=>M x y (by subst h;simp[ho,Op.operands]) z;unfold bq.run at d;dsimp only at d;generalize y.ev e=lv at *;generalize H:a.eval x=av at *;have UD:=hx;cases hx<;>try (cases d;done)
 case aq=>
  obtain⟨h,h1,d⟩:=bind_some d;obtain⟨l,h2,d⟩:=bind_some d;split at d
  ·rename_i h0;cases d;have m:=eB (μ:=μ) (ι:=ι) (w:=w) E G h1;have q:=eB (μ:=μ) (ι:=ι) (w:=w) D F h2;obtain⟨r,I,A⟩:=eA (c:=c) (w:=w) (YA:=true) (cap:=0) m (Nat.le_refl _) q;obtain⟨rfl,rfl⟩:=h0;refine⟨rfl,_,by simp only[execOp,ho,H,Instr.sliceAt,Instr.slice,Sem.run_bind,ru B,Result.andThen_ok,Option.map_none,r,wT C];rfl,?_⟩;simp only[Nat.sub_zero,if_true];exact .aq
  ·cases d
 case zs=>
  obtain⟨h,h1,d⟩:=bind_some d;obtain⟨l,h2,d⟩:=bind_some d;split at d
  ·rename_i h0;cases d;have m:=eB (μ:=μ) (ι:=ι) (w:=w) E G h1;have q:=eB (μ:=μ) (ι:=ι) (w:=w) D F h2;obtain⟨r,I,A⟩:=eA (c:=c) (w:=w) (YA:=true) (cap:=0) m (Nat.le_refl _) q;obtain⟨rfl,rfl⟩:=h0;refine⟨rfl,_,by simp only[execOp,ho,H,Instr.sliceAt,Instr.slice,Sem.run_bind,ru B,Result.andThen_ok,Option.map_none,r,wT C];rfl,?_⟩;simp only[Nat.sub_zero,if_true];exact .zs _
  ·cases d
 case aF cs len b off cap vs J V X h N=>
  obtain⟨k,h1,d⟩:=bind_some d;obtain⟨g,h2,d⟩:=bind_some d;split at d
  ·rename_i bV;cases d;have m:=eB (μ:=μ) (ι:=ι) (w:=w) E G h1;have q:=eB (μ:=μ) (ι:=ι) (w:=w) D F h2;obtain⟨r,I,A⟩:=eA (c:=c) (w:=w) (YA:=true) (cap:=cap) m N q;refine⟨rfl,_,by simp only[execOp,ho,H,Instr.sliceAt,Instr.slice,Sem.run_bind,ru B,Result.andThen_ok,Option.map_none,r,wT C];rfl,?_⟩;have j:((cs.drop (g*n)).take ((k - g)*n)).length=(k - g)*n:=by
    have:k*n<=len*n:=Nat.mul_le_mul_right n A;have h3:(k - g)*n=k*n - g*n:=Nat.sub_mul k g n;simp;omega
   have K:∀ i,i<(k - g)*n->g*n+i<cs.length:=λi f=>by
    have:k*n<=len*n:=Nat.mul_le_mul_right n A;have h3:(k - g)*n=k*n - g*n:=Nat.sub_mul k g n;have h4:g*n<=k*n:=Nat.mul_le_mul_right n I;omega
   by_cases O:cap=g
   ·rw[if_pos O];have h0:k - g=0:=by omega
    rw[h0]at j ⊢;exact .aF (λ_=>undef) (λi f=>by rw[j]at f;omega) (λi f=>by rw[j]at f;omega) (λi f=>by rw[j]at f;omega) (λi f=>by rw[j]at f;omega) (Nat.zero_le _)
   ·rw[if_neg O];simp only[Option.map_some,jz];refine .aF (λi=>vs (g*n+i)) (λi f=>?_) (λi f=>?_) (λi f=>?_) (λi f=>?_) om<;>rw[j]at f
    ·rw[Nat.add_assoc];exact J _ (K i f)
    ·rw[Nat.add_assoc];exact V _ (K i f)
    ·exact X _ (K i f)
    ·rw[dY _ _ _ _ f];exact h _ (K i f)
  ·cases d
 case aE id off len u cap p T U O N Y=>
  obtain⟨k,h1,d⟩:=bind_some d;obtain⟨g,h2,d⟩:=bind_some d;split at d
  ·rename_i Z;subst Z;cases d;have m:=eB (μ:=μ) (ι:=ι) (w:=w) E G h1;have q:=eB (μ:=μ) (ι:=ι) (w:=w) D F h2;obtain⟨r,I,A⟩:=eA (c:=c) (w:=w) (YA:=true) (cap:=cap) m N q;have hm:(cap - g)*u=cap*u - g*u:=Nat.sub_mul cap g u;have NK:g*u<=cap*u:=Nat.mul_le_mul_right u om;refine⟨rfl,_,by simp only[execOp,ho,H,Instr.sliceAt,Instr.slice,Sem.run_bind,ru B,Result.andThen_ok,Option.map_none,r,wT C];rfl,?_⟩;by_cases J:cap=g
   ·rw[if_pos J];exact .aE U om om (λh=>absurd om h)
   ·rw[if_neg J];simp only[Option.map_some,jz];rw[Nat.add_assoc];exact .aE U om om (λ_=>by rw[Y om])
  ·cases d
theorem AA {t:TypeId}{x:Operand}{g i:Option Operand}(ho:o.op = .slice t x g i none) (j:Ho μ ι w c e a o) (n:c.P.underlying t=some .string)
 {y:bF}{k m:Option bF}(f:cP c x=some y) (p:sr c g=some k) (q:sr c i=some m) (d:(bq.pW y k m).run e s=some (v,s')):s'=s/\dK μ ι w c.P a o v:=by
 have hx:=j x y (by simp[ho,Op.operands]) f;have r:∀ x y,g=some x->cP c x=some y->Rv μ ι w (y.ev e) (a.eval x):=λx y h f=>j x y (by subst h;simp[ho,Op.operands]) f;have u:∀ x y,i=some x->cP c x=some y->Rv μ ι w (y.ev e) (a.eval x):=λx y h f=>j x y (by subst h;simp[ho,Op.operands]) f;unfold bq.run at d;dsimp only at d;generalize y.ev e=lv at *;generalize z:a.eval x=D at *;cases hx<;>try (cases d;done)
 case str b=>
  obtain⟨h,h1,d⟩:=bind_some d;obtain⟨l,h2,d⟩:=bind_some d;cases d;have A:=eB (μ:=μ) (ι:=ι) (w:=w) q u h1;have B:=eB (μ:=μ) (ι:=ι) (w:=w) p r h2;obtain⟨C,E,F⟩:=eA (c:=c) (w:=w) (YA:=false) (cap:=b.size) A (Nat.le_refl _) B;exact⟨rfl,_,by simp only[execOp,ho,z,Instr.sliceAt,Instr.slice,Sem.run_bind,ru n,Result.andThen_ok,Option.map_none,Option.isSome_none,Bool.false_eq_true,if_false,Sem.run_pure,C], .str _⟩
theorem AB {cmp:Nat->bx->Code->Prop}{w0:Bs}{δ:Nat->Prop}{t:TypeId}{x:Operand}{i j:Option Operand}(ho:o.op = .slice t x i j none) (I:Inv cmp w0 μ ι δ s w) (k:Ho μ ι w c e a o) {m:TypeId}{n:Nat}(z:c.P.underlying t=some (.array n m)) {d:Nat}(A:gU c.P m=some d)
 {y:bF}{q r:Option bF}(f:cP c x=some y) (B:sr c i=some q) (C:sr c j=some r) (b:(bq.nE d n y q r).run e s=some (v,s')):s'=s/\dK μ ι w c.P a o v:=by
 have hx:=k x y (by simp[ho,Op.operands]) f;have D:∀ x y,i=some x->cP c x=some y->Rv μ ι w (y.ev e) (a.eval x):=λx y h f=>k x y (by subst h;simp[ho,Op.operands]) f;have E:∀ x y,j=some x->cP c x=some y->Rv μ ι w (y.ev e) (a.eval x):=λx y h f=>k x y (by subst h;simp[ho,Op.operands]) f;unfold bq.run at b;dsimp only at b;generalize y.ev e=lv at *;generalize F:a.eval x=L at *;cases hx<;>try (cases b;done)
 case aO id off p l=>
  obtain⟨M,h1,b⟩:=bind_some b;obtain⟨g,h2,b⟩:=bind_some b;split at b
  ·rename_i cs G;split at b
   ·rename_i N;cases b;have H:=eB (μ:=μ) (ι:=ι) (w:=w) C E h1;have J:=eB (μ:=μ) (ι:=ι) (w:=w) B D h2;obtain⟨K,O,Q⟩:=eA (c:=c) (w:=w) (YA:=false) (cap:=n) H (Nat.le_refl _) J;obtain⟨_,R,_⟩:=I.dR id _ p G l;have hm:(n - g)*d=n*d - g*d:=Nat.sub_mul n g d;have S:g*d<=n*d:=Nat.mul_le_mul_right d om;refine⟨rfl,_,by simp only[execOp,ho,F,Instr.sliceAt,Instr.sureAddr,Sem.run_bind,ru z,Result.andThen_ok,Option.map_none,Sem.run_pure,K,wT A];rfl,?_⟩;by_cases u:n=g
    ·rw[if_pos u];exact .aE l om om (λh=>absurd om h)
    ·rw[if_neg u];simp only[jz];rw[Nat.add_assoc];exact .aE l om om (λ_=>rfl)
   ·cases b
  ·cases b
theorem HV {t:TypeId}{x:Operand}(ho:o.op = .call { callee:=.builtin .len,args:=#[x],argTypes:=#[t] }) (f:Ho μ ι w c e a o) {g:TypeId}(h:c.P.underlying t=some (.slice g))
 {y:bF}(i:cP c x=some y) (d:(bq.yL y).run e s=some (v,s')):s'=s/\dK μ ι w c.P a o v:=by
 have hx:=f x y (by simp[ho,Op.operands,Call.operands]) i;unfold bq.run at d;dsimp only at d;generalize y.ev e=lv at *;generalize j:a.eval x=l at *;obtain⟨n,h1,d⟩:=bind_some d;cases d;have h2:∃ b k,l = .slice b n k:=by
  cases hx<;>simp only[ji,reduceCtorEq]at h1<;>cases h1<;>exact⟨_,_,rfl⟩
 obtain⟨b,k,rfl⟩:=h2;exact⟨rfl,_,by simp only[execOp,ho,resolve,Sem.run_bind,Sem.run_pure,Result.andThen_ok,invoke,builtin,List.map_toArray,List.map_cons,List.map_nil,j];simp[Builtin.len_,ru h];rfl, .int _ _⟩
theorem E4 {t:TypeId}{x:Operand}(ho:o.op = .call { callee:=.builtin .len,args:=#[x],argTypes:=#[t] }) (d:Ho μ ι w c e a o) (f:c.P.underlying t=some .string)
 {y:bF}(g:cP c x=some y) (b:(bq.yK y).run e s=some (v,s')):s'=s/\dK μ ι w c.P a o v:=by
 have hx:=d x y (by simp[ho,Op.operands,Call.operands]) g;unfold bq.run at b;dsimp only at b;generalize y.ev e=lv at *;generalize h:a.eval x=i at *;cases hx<;>try (cases b;done)
 cases b;exact⟨rfl,_,by simp only[execOp,ho,resolve,Sem.run_bind,Sem.run_pure,Result.andThen_ok,invoke,builtin,List.map_toArray,List.map_cons,List.map_nil,h];simp[Builtin.len_,ru f];rfl, .int _ _⟩
theorem E6 {t:TypeId}{x:Operand}(ho:o.op = .call { callee:=.builtin .len,args:=#[x],argTypes:=#[t] }) {n:Nat}{b:TypeId}(d:c.P.underlying t=some (.array n b))
 (f:(bq.CP n).run e s=some (v,s')):s'=s/\dK μ ι w c.P a o v:=by
 cases f;refine⟨rfl,_,by simp only[execOp,ho,resolve,Sem.run_bind,Sem.run_pure,Result.andThen_ok,invoke,builtin,List.map_toArray,List.map_cons,List.map_nil];simp[Builtin.len_,ru d];rfl, .int _ _⟩
theorem LY (isMax:Bool) (k:IntKind):∀ (ls:List LV) (vs:List Value) (x r:Int),vs.length=ls.length->(∀ i,i<ls.length->Rv μ ι w (ls.getD i .top) (vs.getD i undef))->eZ.go isMax k x ls=some r ->
 (vs.foldlM (if isMax then Builtin.max2 else Builtin.min2) (.int k x)).run c.P w = .ok (.int k r) w:=by
 intro ls;induction ls with
 | nil=>intro vs x r hl _ h;simp at hl;subst hl;simp[eZ.go]at h;subst h;rfl
 | cons l ls ih=>
   intro vs x r hl b h;cases vs with
   | nil=>simp at hl
   | cons u vs=>
     have h0:Rv μ ι w l u:=by simpa using b 0 (by simp)
     cases h0<;>simp only[eZ.go,reduceCtorEq]at h;split at h
     ·rename_i e;subst e;have:=ih vs _ r (by simpa using hl) (λi d=>by simpa using b (i+1) (by simpa using d)) h;cases isMax
      ·simp only[Bool.false_eq_true,if_false]at this ⊢;simp only[List.foldlM_cons,Sem.run_bind,Builtin.min2,Sem.run_pure,Result.andThen_ok];exact this
      ·simp only[if_true]at this ⊢;simp only[List.foldlM_cons,Sem.run_bind,Builtin.max2,Sem.run_pure,Result.andThen_ok];exact this
     ·cases h
theorem vZ {b:Builtin}{x:Operand}{xs:List Operand}{q:Array TypeId}{as:Array Operand}(has:as.toList=x::xs) (t:b = .min∨b = .max) (ho:o.op = .call { callee:=.builtin b,args:=as,argTypes:=q })
 (u:Ho μ ι w c e a o) {f:List bF}(l:yu c (x::xs)=some f) (h:(bq.ju (match b with | .max=>true | _=>false) f).run e s=some (v,s')):s'=s/\dK μ ι w c.P a o v:=by
 unfold bq.run at h;dsimp only at h;obtain⟨v',h1,h⟩:=bind_some h;cases h;have z:o.op.operands.toList=x::xs:=by rw[ho];simp[Op.operands,Call.operands,has]
 obtain⟨hl,d⟩:=yt (μ:=μ) (ι:=ι) (w:=w) (e:=e) (a:=a) l (λx y hx l=>u x y (by rw[z];exact hx) l);cases f with
 | nil=>simp[eZ]at h1
 | cons y f=>
   have h0:Rv μ ι w (y.ev e) (a.eval x):=by simpa using d 0 (by simp)
   simp only[List.map_cons]at h1;generalize y.ev e=C at *;generalize m:a.eval x=D at *;cases h0<;>simp only[eZ,reduceCtorEq]at h1;rename_i k n;obtain⟨r,h2,rfl⟩:=cX h1;have A:(xs.map a.eval).length=(f.map (·.ev e)).length:=by simpa using hl
   have g:∀ i,i<(f.map (·.ev e)).length->Rv μ ι w ((f.map (·.ev e)).getD i .top) ((xs.map a.eval).getD i undef):=λi B=>by
    have:=d (i+1) (by simpa using B);simpa[gF,gD] using this
   have j:=LY (c:=c) (w:=w) _ k _ _ n r A g h2;have p:(as.map a.eval).toList = .int k n::xs.map a.eval:=by simp[has,m]
   refine⟨rfl, .int k r,?_, .int _ _⟩;rcases t with rfl | rfl
   ·simp only[Bool.false_eq_true,if_false]at j;simp only[execOp,ho,resolve,Sem.run_bind,Sem.run_pure,Result.andThen_ok,invoke,builtin,Builtin.min_,p];rw[j];rfl
   ·simp only[if_true]at j;simp only[execOp,ho,resolve,Sem.run_bind,Sem.run_pure,Result.andThen_ok,invoke,builtin,Builtin.max_,p];rw[j];rfl
theorem HT {F:bq}(hl:Op.looks o.op=true) (g:bH c o=some F) (r:Ho μ ι w c e a o) (I:Inv cmp w0 μ ι δ s w) (G:CW F=false) (q:F.run e s=some (v,s')) :
 s'=s/\dK μ ι w c.P a o v:=by
 cases ho:o.op<;>rw[ho]at hl<;>simp only[Op.looks,Bool.false_eq_true]at hl
 case move x=>simp only[bH,ho]at g;obtain⟨y,j,rfl⟩:=cX g;exact BF (.inl ho) r j q
 case assign x=>simp only[bH,ho]at g;obtain⟨y,j,rfl⟩:=cX g;exact BF (.inr ho) r j q
 case pick k x y=>
  simp only[bH,ho]at g;obtain⟨T,R,g⟩:=bind_some g;obtain⟨U,hx,g⟩:=bind_some g;obtain⟨V,j,g⟩:=bind_some g;cases g;exact L7 ho r R hx j q
 case build t ps=>exact HZ ho r g q
 case load t x=>
  simp only[bH,ho]at g;obtain⟨n,u,g⟩:=bind_some g;obtain⟨y,j,g⟩:=bind_some g;cases g;exact L9 I ho r u j q
 case nilCheck x=>simp only[bH,ho]at g;obtain⟨y,j,g⟩:=bind_some g;cases g;exact E0 ho r j q
 case binOp op t x y X=>exact PZ ho r g q
 case unOp op t x=>simp only[bH,ho]at g;obtain⟨y,j,g⟩:=bind_some g;cases g;exact Uo ho r j q
 case convert t d x=>
  simp only[bH,ho]at g;cases p:c.P.underlying d with
  | none=>simp[p]at g
  | some z=>
    rw[p]at g;cases z<;>simp only[reduceCtorEq]at g
    case int k=>obtain⟨⟨⟩,H,g⟩:=bind_some g;obtain⟨y,j,g⟩:=bind_some g;cases g;exact CN ho r p (by unfold Kp at H;split at H;exact⟨_,by assumption⟩;cases H) j q
    case string=>
     split at g
     ·split at g
      ·obtain⟨y,j,g⟩:=cX g;subst g;cases G
      ·cases g
     ·rename_i Y Z E;obtain⟨y,j,g⟩:=cX g;subst g;exact AH ho r p ⟨_,E⟩ j q
     ·cases g
 case makeFunc f xs M=>
  cases f<;>simp only[bH,ho,reduceCtorEq]at g;obtain⟨lx,hx,g⟩:=bind_some g;obtain⟨ly,j,g⟩:=bind_some g;cases g;exact L8 ho r hx j q
 case slice t x l h m=>
  cases m with
  | some mx=>
    exfalso;cases l<;>cases h<;>simp only[bH,ho,reduceCtorEq]at g;split at g
    ·obtain⟨_,_,g⟩:=bind_some g;obtain⟨_,_,g⟩:=bind_some g;obtain⟨_,_,g⟩:=bind_some g;obtain⟨_,_,g⟩:=bind_some g;obtain⟨_,_,g⟩:=bind_some g;cases g;cases G
    ·cases g
  | none=>
  simp only[bH,ho]at g;cases p:c.P.underlying t with
  | none=>simp[p]at g
  | some z=>
    rw[p]at g;cases z<;>simp only[reduceCtorEq]at g
    case slice C=>
     obtain⟨n,u,g⟩:=bind_some g;obtain⟨y,j,g⟩:=bind_some g;obtain⟨N,D,g⟩:=bind_some g;obtain⟨O,A,g⟩:=bind_some g;cases g;exact HU ho r p u j D A q
    case string=>
     obtain⟨y,j,g⟩:=bind_some g;obtain⟨N,D,g⟩:=bind_some g;obtain⟨O,A,g⟩:=bind_some g;cases g;exact AA ho r p j D A q
    case array n C=>
     obtain⟨sz,u,g⟩:=bind_some g;obtain⟨y,j,g⟩:=bind_some g;obtain⟨N,D,g⟩:=bind_some g;obtain⟨O,A,g⟩:=bind_some g;cases g;exact AB ho I r p u j D A q
 case fieldAddr st x f=>
  simp only[bH,ho]at g;cases p:c.P.underlying st with
  | none=>simp[p]at g
  | some z=>
    rw[p]at g;cases z<;>simp only[reduceCtorEq]at g;obtain⟨fl,J,g⟩:=bind_some g;obtain⟨n,u,g⟩:=bind_some g;split at g
    ·cases g
    ·rename_i h0;obtain⟨y,j,g⟩:=bind_some g;cases g;exact HY ho r p J u h0 j q
 case field t x f=>
  simp only[bH,ho]at g;cases p:c.P.underlying t with
  | none=>simp[p]at g
  | some z=>
    rw[p]at g;cases z<;>simp only[reduceCtorEq]at g;obtain⟨fl,J,g⟩:=bind_some g;obtain⟨n,u,g⟩:=bind_some g;obtain⟨y,j,g⟩:=bind_some g;cases g;exact HX ho r p J u j q
 case indexAddr t x i=>
  simp only[bH,ho]at g;cases p:c.P.underlying t with
  | none=>simp[p]at g
  | some z=>
    rw[p]at g;cases z<;>simp only[reduceCtorEq]at g
    case slice C=>obtain⟨n,u,g⟩:=bind_some g;obtain⟨y,j,g⟩:=bind_some g;obtain⟨K,B,g⟩:=bind_some g;cases g;exact HW ho r p u j B q
    case array len C=>obtain⟨n,u,g⟩:=bind_some g;obtain⟨y,j,g⟩:=bind_some g;obtain⟨K,B,g⟩:=bind_some g;cases g;exact AG ho r p u j B q
 case index t x i=>
  simp only[bH,ho]at g;cases p:c.P.underlying t with
  | none=>simp[p]at g
  | some z=>
    rw[p]at g;cases z<;>simp only[reduceCtorEq]at g
    case array len C=>
     obtain⟨n,u,g⟩:=bind_some g;obtain⟨ag,L,g⟩:=bind_some g;obtain⟨y,j,g⟩:=bind_some g;obtain⟨K,B,g⟩:=bind_some g;cases g;exact AF ho r p u L j B q
    case string=>obtain⟨y,j,g⟩:=bind_some g;obtain⟨K,B,g⟩:=bind_some g;cases g;exact AE ho r p j B q
 case extract x i=>simp only[bH,ho]at g;obtain⟨y,j,g⟩:=bind_some g;cases g;exact PY ho r j q
 case call cl=>
  obtain⟨S,as,Q⟩:=cl;cases S<;>try (cases hl;done)
  rename_i b;cases b<;>simp only[Bool.false_eq_true]at hl
  case len=>
   simp only[bH,ho,eG]at g;rcases has:as.toList with _ | ⟨x,_ | ⟨x2,xs⟩⟩<;>rcases E:Q.toList with _ | ⟨t,_ | ⟨t2,tl⟩⟩<;>rw[has,E]at g<;>try (cases g;done)
   have h1:as = #[x]:=by apply Array.ext';simpa using has
   have h2:Q = #[t]:=by apply Array.ext';simpa using E
   subst h1;subst h2;simp only[rU]at g;cases p:c.P.underlying t with
   | none=>simp[p]at g
   | some z=>
     rw[p]at g;cases z<;>simp only[reduceCtorEq]at g
     case slice C=>obtain⟨y,j,g⟩:=bind_some g;cases g;exact HV ho r p j q
     case string=>obtain⟨y,j,g⟩:=bind_some g;cases g;exact E4 ho r p j q
     case array n C=>cases g;exact E6 ho p q
     case map=>obtain⟨y,j,g⟩:=bind_some g;cases g;cases G
  case max=>
   simp only[bH,ho,eG]at g;rcases has:as.toList with _ | ⟨x,xs⟩<;>rw[has]at g<;>try (cases g;done)
   simp only at g;obtain⟨M,j,g⟩:=bind_some g;cases g;exact vZ has (.inr rfl) ho r j q
  case min=>
   simp only[bH,ho,eG]at g;rcases has:as.toList with _ | ⟨x,xs⟩<;>rw[has]at g<;>try (cases g;done)
   simp only at g;obtain⟨M,j,g⟩:=bind_some g;cases g;exact vZ has (.inl rfl) ho r j q
end
end Go.Pv
end
