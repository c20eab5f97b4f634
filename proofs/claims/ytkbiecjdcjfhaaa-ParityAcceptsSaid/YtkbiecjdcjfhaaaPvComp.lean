/- From the machine's code to its plain form: types looked up once and for all. -/
import Derived.Test.YtkbiecjdcjfhaaaPvCore
import Derived.Orders
import Derived.Laws.Entries
import Derived.ChangeKeysEq
import Derived.LaidEql
import Derived.WalkSpells
import Derived.Laws.StructEq
set_option linter.unusedSimpArgs false
set_option linter.unusedVariables false
set_option maxRecDepth 100000
set_option maxHeartbeats 16000000
section
namespace Go.Pv
open Go
structure Ctx where
  P:Program
  /-- package-level variables ZE hold what they hold for ever -/
  vS:List (Nat × List LV)
  /-- boxes of this function (by slot) ZE are written behind their making -/
  refs:List Nat
  /-- the number of Ue -/
  nt:Nat
def sW:Value->Option LV
 | .bool b=>some (.bool b)
 | .int k n=>some (.int k n)
 | .string s=>some (.str s)
 | .pointer none=>some .eu
 | .slice none 0 0=>some .aj
 | .map none=>some .bN
 | .nilFunc=>some .jh
 | .nilIface=>some .ld
 | _=>none
def mV:Value->Option LV
 | .agg cs=>(cs.toList.mapM sW).map .agg
 | .tuple vs=>if vs.toList.length=0 then some (.cy []) else none
 | v=>sW v
def cB (c:Ctx):Operand->Option bz
 | .tmp t=>some (.t t)
 | .const v=>(mV v).map .c
 | .global g=>((c.vS.find? λx=>x.1 == g).map λx=>.c (.aX x.2 0))
 | .func f=>some (.c (.fn (.func f) [] []))
def xL (c:Ctx) (l:List Operand):Option (List bz):=l.mapM (cB c)
def qY (c:Ctx):Option Operand->Option (Option bz)
 | none=>some none
 | some x=>(cB c x).map some
def gG (P:Program) (t:TypeId):Option Nat:=(P.info? t).map (·.size)
def nO (P:Program) (t:TypeId):Option (Option Nat) :=
 match P.underlying t with
 | some (.struct _) | some (.array _ _)=>(gG P t).map some
 | some _=>some none
 | none=>none
def oJ (P:Program) (t:TypeId):Option (List LV):=do
 let i <- P.info? t;let z <- i.zero;cells? (<- mV z)
def pM (P:Program) (t:TypeId):Option cL:=
 match P.underlying t with
 | some .bool=>some .bool
 | some (.int _)=>some .int
 | some .string=>some .str
 | _=>none
def mE (P:Program) (fs:List Field):Option (List (Nat × Nat × cL)):=fs.mapM λf=>(pM P f.type).map λe=>(f.offset,1,e)
def PL (P:Program) (f:Field):Option (List (Nat × Nat × cL)) :=
 match pM P f.type with
 | some e=>some [(f.offset,1,e)]
 | none=>
   match P.underlying f.type,gG P f.type with
   | some (.struct gs),some n=>
     if P.stoodInHeld f.type || !(gs.toList.all fun g => g.name != "_" && Nat.blt g.offset n) then none else
     (mE P gs.toList).map λl=>l.map λp=>(f.offset+p.1,p.2)
   | _,_=>none
def mT (P:Program):List Field->Option (List (Nat × Nat × cL))
 | []=>some []
 | f::fs=>
   match PL P f with
   | some a=>(match mT P fs with | some b=>some (a++b) | none=>none)
   | none=>none
def Ll (P:Program) (t:TypeId):Option cL:=
 match P.underlying t with
 | some .bool | some (.int _) | some .string=>pM P t
 | some (.pointer _)=>some .ptr
 | some (.slice _)=>some .JC
 | some (.map _ _)=>some .mp
 | some (.func _ _ _)=>some .Zf
 | some (.interface _)=>some .q5
 | some (.struct fs) =>
   if P.stoodInHeld t || P.eqGuardType P.depth t then none else
   if fs.toList.all (fun f => f.name != "_") then (mT P fs.toList).map .struct else none
 | _=>none
def partsOf (c:Ctx) (place:Nat->Option (Nat × Nat)) (ps:List (Nat × Operand)):Option (List (Nat × Nat × bz)) :=
 ps.mapM λ(i,x)=>do
  let (off,size) <- place i;let x <- cB c x;some (off,size,x)
def tE:BinOp->Bool
 | .eql | .neq=>false
 | _=>true
def IC (P:Program) (t:TypeId):Option Unit:=
 match P.underlying t with
 | some _=>some ()
 | none=>none
def V8 (P:Program) (t:TypeId):Bool:=
 match P.underlying t with
 | some (.pointer b)=>(match gG P b with | some n=>n != 0 | none=>false)
 | _=>false
def Z4:bz->Bool
 | .c .eu=>true
 | _=>false
def II:BinOp->Bool
 | .neq=>true
 | _=>false
def VC (c:Ctx) (o:Oper):Bool:=
 match o.dst with
 | some d=>!c.refs.contains d
 | none=>false
def qD (c:Ctx) (x:Operand) (t:TypeId):Option aR:=
 match c.P.underlying t with
 | some (.slice _)=>do some (.xY (<- cB c x))
 | some .string=>do some (.xX (<- cB c x))
 | some (.array n _)=>some (.BY n)
 | some (.map _ _)=>do some (.kn (<- cB c x))
 | _=>none
def D8:TypeDesc->Bool
 | .slice _ | .string=>true
 | _=>false
def Wn (P:Program) (t:TypeId):Bool:=
 match P.underlying t with
 | some (.int .u8)=>true
 | _=>false
def mj (P:Program) (t:TypeId):Option zj:=
 match P.underlying t with
 | some (.int k)=>some (.int k)
 | some .string=>some .str
 | some (.struct _) =>
   match Ll P t with
   | some (.struct b)=>some (.st b)
   | _=>none
 | _=>none
def Oa:TypeDesc->Bool
 | .int _=>true
 | _=>false
def qE (c:Ctx) (x:Operand) (t:TypeId):Option aR:=
 match c.P.underlying t with
 | some (.slice _)=>do some (.Ht (<- cB c x))
 | _=>none
def aad (c:Ctx):Operand->Bool
 | .tmp d=>c.refs.contains d
 | _=>false
def g9 (c:Ctx) (x y:Operand) (t u:TypeId):Option aR:=
 match c.P.underlying t with
 | some (.slice e)=>do
   let d <- c.P.underlying u;let i <- c.P.info? e;let z <- oJ c.P e;if i.size=0∨i.bytes=0∨z.length≠i.size then none else
   if D8 d=true then (if aad c y=true then do some (.xb i.size i.bytes (<- cB c x) (<- cB c y)) else do some (.append i.size i.bytes (<- cB c x) (<- cB c y))) else
   if Oa d=true then do some (.Hy i.size i.bytes z (<- cB c x) (<- cB c y)) else none
 | _=>none
def lE (c:Ctx) (x y:Operand) (t:TypeId):Option aR:=
 match c.P.underlying t with
 | some (.slice e)=>do some (.copy (<- gG c.P e) (<- cB c x) (<- cB c y))
 | _=>none
def oC (c:Ctx) (x:Operand) (t:TypeId):Option aR:=
 match c.P.underlying t with
 | some (.slice e)=>do some (.clr (<- gG c.P e) (<- oJ c.P e) (<- cB c x))
 | _=>none
def eg (c:Ctx) (b:Builtin) (as:List Operand) (d:List TypeId):Option aR:=
 match b,as,d with
 | .len,[x],[t]=>qD c x t
 | .append,[x,y],[t,u]=>g9 c x y t u
 | .copy,[x,y],[t,_]=>lE c x y t
 | .cap,[x],[t]=>qE c x t
 | .clear,[x],[t]=>oC c x t
 | .min,x::xs,_=>do some (.mJ false (<- xL c (x::xs)))
 | .max,x::xs,_=>do some (.mJ true (<- xL c (x::xs)))
 | _,_,_=>none
def bA (c:Ctx) (o:Oper):Option aR:=
 match o.op with
 | .move x | .assign x=>(cB c x).map .mv
 | .pick k a b=>do some (.pick (<- cB c k) (<- cB c a) (<- cB c b))
 | .box _ x=>do some (.box (VC c o) (<- cB c x))
 | .alloc t=>do some (.alloc (<- oJ c.P t))
 | .build t ps=>do
   let z <- oJ c.P t;match c.P.underlying t with
   | some (.struct fs) =>
     let q <- fs.toList.mapM λf=>do some (f.offset,<- gG c.P f.type)
     some (.build z (<- partsOf c (q[·]?) ps.toList))
   | some (.array _ e)=>do
     let size <- gG c.P e;some (.build z (<- partsOf c (λi=>some (i*size,size)) ps.toList))
   | _=>none
 | .buildSlice t len ps=>
   match c.P.underlying t with
   | some (.slice e)=>do
     let size <- gG c.P e;let z <- oJ c.P e;if size=0∨z.length≠size∨len*size > 2 ^ 20 then none else
     some (.bt size len z (<- partsOf c (λi=>some (i*size,size)) ps.toList))
   | _=>none
 | .load t x=>do some (.load (<- nO c.P t) (<- cB c x))
 | .store t a x=>do some (.store (<- gG c.P t) (<- cB c a) (<- cB c x))
 | .nilCheck x=>do some (.bP (<- cB c x))
 | .binOp op p x y _=>do
   let x <- cB c x;let y <- cB c y;match c.P.underlying p with
   | some (.int _) | some .string=>some (.bin op x y)
   | _=>if tE op then none else do
     let r <- Ll c.P p;if (V8 c.P p && !Z4 x && !Z4 y)=true then some (.PZ (II op) x y) else some (.eq (II op) r x y)
 | .unOp op _ x=>do some (.un op (<- cB c x))
 | .convert d dst x=>
   match c.P.underlying dst with
   | some (.int k)=>do IC c.P d;some (.oA k (<- cB c x))
   | some .string=>
     match c.P.underlying d with
     | some (.slice u)=>if Wn c.P u then (cB c x).map .lF else none
     | some _=>(cB c x).map .ud
     | none=>none
   | _=>none
 | .range t x=>
   match c.P.underlying t with
   | some (.map _ _)=>do some (.oc (<- cB c x))
   | _=>none
 | .next x false=>(cB c x).map .ku
 | .entry x=>(cB c x).map .od
 | .makeMap t x=>
   match c.P.underlying t with
   | some (.map _ _)=>do some (.iq (<- qY c x))
   | _=>none
 | .lookup t m k ok=>
   match c.P.underlying t with
   | some (.map key g)=>do
     let kd <- mj c.P key;let z <- (c.P.info? g).bind (·.zero);some (.eD kd (<- mV z) ok (<- cB c m) (<- cB c k))
   | _=>none
 | .mapUpdate t m k x | .insert t m k x=>
   match c.P.underlying t with
   | some (.map key _)=>do
     let kd <- mj c.P key;some (.lQ kd (<- cB c m) (<- cB c k) (<- cB c x))
   | _=>none
 | .slice t x (some lo) (some h) (some A) =>
   match c.P.underlying t with
   | some (.slice e)=>do let _ <- gG c.P e;some (.uH (<- cB c x) (<- cB c lo) (<- cB c h) (<- cB c A))
   | _=>none
 | .makeFunc (.func f) first j=>do some (.su (.func f) (<- xL c first.toList) (<- xL c j.toList))
 | .makeSlice t l k=>
   match c.P.underlying t with
   | some (.slice e)=>do
     let i <- c.P.info? e;let z <- oJ c.P e;if i.size=0 then none else
     some (.ct i.size i.bytes z (<- cB c l) (<- cB c k))
   | _=>none
 | .slice t x lo h none=>
   match c.P.underlying t with
   | some (.slice e)=>do some (.slice (<- gG c.P e) (<- cB c x) (<- qY c lo) (<- qY c h))
   | some .string=>do some (.pI (<- cB c x) (<- qY c lo) (<- qY c h))
   | some (.array n e)=>do some (.ni (<- gG c.P e) n (<- cB c x) (<- qY c lo) (<- qY c h))
   | _=>none
 | .fieldAddr s x f=>
   match c.P.underlying s with
   | some (.struct fs)=>do
     let fl <- fs[f]?;let size <- gG c.P fl.type;if size=0 then none else some (.rQ fl.offset (<- cB c x))
   | _=>none
 | .field t x f=>
   match c.P.underlying t with
   | some (.struct fs)=>do
     let fl <- fs[f]?;some (.field fl.offset (<- nO c.P fl.type) (<- cB c x))
   | _=>none
 | .indexAddr t x i=>
   match c.P.underlying t with
   | some (.slice e)=>do some (.vI (<- gG c.P e) (<- cB c x) (<- cB c i))
   | some (.array n e)=>do some (.tI (<- gG c.P e) n (<- cB c x) (<- cB c i))
   | _=>none
 | .index t x i=>
   match c.P.underlying t with
   | some (.array n e)=>do some (.tG (<- gG c.P e) n (<- nO c.P e) (<- cB c x) (<- cB c i))
   | some .string=>do some (.pU (<- cB c x) (<- cB c i))
   | _=>none
 | .extract x i=>do some (.ext (<- cB c x) i)
 | .call { callee:=.value f,args, .. } => do some (.call (<- cB c f) (<- xL c args.toList))
 | .call { callee:=.builtin b,args,argTypes } => eg c b args.toList argTypes.toList
 | _=>none
def dM (c:Ctx) (ops:Array Oper) (o:Oper):Option bx:=do
 let op <- bA c o;match o.dst with
 | some d=>if d<c.nt then pure () else none
 | none=>pure ()
 match o.guard with
 | none=>some { dst:=o.dst,op }
 | some (j,b)=>do
   let d <- (ops[j]?).bind (·.dst);some { dst:=o.dst,op,guard:=some (d,b) }
def Op.looks:Op->Bool
 | .move _ | .assign _ | .pick .. | .build .. | .load .. | .nilCheck _ | .binOp .. | .unOp .. | .fieldAddr .. | .field .. | .indexAddr .. | .index .. | .extract .. | .makeFunc .. | .slice .. => true
 | .convert .. => true
 | .call { callee:=.builtin .len, .. } | .call { callee:=.builtin .min, .. } | .call { callee:=.builtin .max, .. } => true
 | _=>false
def Op.makes:Op->Bool
 | .alloc _ | .box .. | .buildSlice .. | .makeSlice .. => true
 | _=>false
def ff (o:Oper):List Nat:=o.after.toList.filterMap λe=>if Region.binds .any e then some e.on else none
def dU:List Oper->List Nat->List Nat
 | [],acc=>acc
 | o::os,acc=>dU os (acc++[(ff o).foldl (λs j=>s ||| 2 ^ j ||| acc.getD j 0) 0])
def gX:aR->Bool
 | .box .. | .alloc _ | .bt .. | .ct .. | .store .. | .append .. | .xb .. | .copy .. | .call .. | .iq _ | .lQ .. | .oc _ | .ku _ | .Hy .. | .clr .. | .PZ .. => false
 | _=>true
def kF:aR->Bool
 | .load .. | .lF _ | .eD .. | .kn _ | .od _ | .ni .. => true
 | _=>false
def B4:aR->Bool
 | .lF _ | .uH .. | .eD .. | .kn _ | .iq _ | .lQ .. | .oc _ | .od _ | .Ht _ | .Hy .. => true
 | _=>false
def jw:aR->Bool
 | .box true _=>true
 | _=>false
def lu:aR->Bool
 | .box false _ | .alloc _ | .bt .. | .ct .. => true
 | _=>false
def wT (o:aR):Bool:=gX o || jw o || lu o
abbrev mX:=Nat × Oper × bx
def cA (ops:Array Oper) (x:mX):List Nat:=x.2.1.looksAt ops++x.2.2.op.tmps++(match x.2.2.guard with | some g=>[g.1] | none=>[])
def iN (ops:Array Oper) (b:List Nat) (all:List mX) (x:mX):Bool:=
 gX x.2.2.op && match x.2.2.dst with
 | some d=>all.any λz=>(cA ops z).contains d && !(b.getD z.1 0).testBit x.1
 | none=>false
def cn (b:mX->Bool) (x:mX):Bool:=wT x.2.2.op && !b x
def canon (ops:List Oper) (fl:List Nat):Nat->List Nat->List Nat->List Nat->List Nat
 | 0,_,_,_=>[]
 | n + 1, done, rest, C9 =>
   let b:=λ(i:Nat)=>((ops[i]?).map λo=>(ff o).all λj=>done.contains j).getD false;match rest.find? (λi=>fl.contains i && b i) with
   | some i=>i::canon ops fl n (i::done) (rest.erase i) C9
   | none=>
     match C9 with
     | i::C9=>i::canon ops fl n (i::done) (rest.erase i) C9
     | []=>[]
def vW (b:List Nat) (pre:List mX) (x:mX):List (Nat × Option (Nat × Bool) × aR) :=
 if gX x.2.2.op || jw x.2.2.op then [] else
 pre.filterMap λy=>if kF y.2.2.op && (lu x.2.2.op || !(b.getD x.1 0).testBit y.1) then y.2.2.dst.map λd=>(d,y.2.2.guard,y.2.2.op) else none
def drawn (b:List Nat):List mX->List mX->List bx
 | _,[]=>[]
 | pre,x::rest=>{ x.2.2 with m8:=vW b pre x,fl:=true } :: drawn b (pre++[x]) rest
def uc (ops:Array Oper) (f:List Nat) (base:List mX) (b:mX->Bool) (pre:List mX) (x:mX) (rest:List mX):Bool:=
 (ff x.2.1).all (λj=>(pre.map (·.1)).contains j) &&
 (cn b x || rest.all λy=>!cn b y || (ff y.2.1).any λj=>!(pre.map (·.1)).contains j) &&
 base.all (λy=>match y.2.2.dst with
  | some d=>!(cA ops x).contains d || (y.1 != x.1 && (f.getD x.1 0).testBit y.1) || (b y && (y.1 == x.1 || (f.getD y.1 0).testBit x.1))
  | none=>true) &&
 base.all (λy=>match y.2.2.dst with
  | some d=>x.1 == y.1 || x.2.2.dst != some d
  | none=>true) &&
 pre.all (λy=>match x.2.2.dst with
  | some d=>!(cA ops y).contains d || (b x && (f.getD x.1 0).testBit y.1)
  | none=>true) &&
 (!kF x.2.2.op || x.2.2.dst.isSome) &&
 (!lu x.2.2.op || Op.makes x.2.1.op)
def w5 (ops:Array Oper) (d:List Nat) (base:List mX) (b:mX->Bool):List mX->List mX->Bool
 | _,[]=>true
 | pre,x::rest=>uc ops d base b pre x rest && w5 ops d base b (pre++[x]) rest
def exts (b:List Nat):Nat->List Nat->List (List Nat)
 | 0,_=>[[]]
 | n+1,rem=>(rem.filter λi=>rem.all λj=>j == i || !(b.getD i 0).testBit j).flatMap λi=>(exts b n (rem.erase i)).map (i::·)
def loose (b:List Nat):List Nat->Nat
 | []=>0
 | i::r=>(r.filter λj=>!(b.getD i 0).testBit j && !(b.getD j 0).testBit i).length+loose b r
def Jh (ops:Array Oper) (d:List Nat) (all:List mX) (b:mX->Bool) (fl C9:List Nat):Option (List bx) :=
 match (canon ops.toList fl ops.size [] (List.range ops.size) C9).mapM (λi=>all[i]?) with
 | none=>none
 | some base=>
   if base.length=ops.size/\(base.map (·.1)).Nodup/\(List.range ops.size).all (λi=>(base.map (·.1)).contains i)=true/\(base.filter λx=>!cn b x).map (·.1)=C9/\w5 ops d base b [] base=true then some (drawn d [] base) else none
def uf (c:Ctx) (ops:Array Oper):Option (List (List bx)) :=
 let d:=dU ops.toList [];match (List.range ops.size).mapM (λi=>do let o <- ops[i]?;let lo <- dM c ops o;some (i,o,lo)) with
 | none=>none
 | some all=>
   let b:=iN ops d all;let fl:=(all.filter (cn b)).map (·.1);let f:=(all.filter λx=>!cn b x).map (·.1);if loose d f<=2/\(exts d f.length f).isEmpty=false then (exts d f.length f).mapM (Jh ops d all b fl) else none
def oB (c:Ctx) (ops:Array Oper) (b:Bool):Option (List (List bx)) :=
 if b then uf c ops else (ops.toList.mapM (dM c ops)).map λl=>[l]
def bh (c:Ctx):Code->bp
 | .skip | .label _=>.skip
 | .region _ ops d=>
   match oB c ops d with
   | some [l]=>.region l
   | some ls=>.alts ls
   | none=>.bad
 | .seq a b=>.seq (bh c a) (bh c b)
 | .cond x a b=>match cB c x with | some y=>.cond y (bh c a) (bh c b) | none=>.bad
 | .block id a=>.block id (bh c a)
 | .loop a=>.loop (bh c a)
 | .rangeFunc f ps as g=>
   match cB c f with
   | some y=>if ps.toList.all (· < c.nt) then .rangeFunc y ps.toList (bh c as) (bh c g) else .bad
   | none=>.bad
 | .exit id=>.exit id
 | .scope a=>.scope (bh c a)
 | .ret=>.ret
 | .goto _=>.bad
 | .refuse _=>.bad
def ue (c:Ctx):ResultVar->Option HB
 | .tmp t=>some (.tmp t)
 | .cell a t=>do some (.cell a (<- nO c.P t))
def aF (P:Program) (vS:List (Nat × List LV)) (refs:List Nat) (fn:Func):Option aZ:=do
 let body <- fn.body;let c:Ctx:=⟨P,vS,refs,fn.ntmps⟩;some { ntmps:=fn.ntmps,results:=<- fn.results.toList.mapM (ue c),body:=bh c body }
open Go Go.RowKit
section
variable {P:Program}{w:World}{μ:Mu}{ι:Io}
theorem ru {t:TypeId}{d:TypeDesc}(h:P.underlying t=some d):(underlying t).run P w = .ok d w:=run_underlying h w
theorem JI {t:TypeId}{i:TypeInfo}(h:P.info? t=some i):(typeInfo t).run P w = .ok i w:=by simp[typeInfo,h]
theorem wj {t:TypeId}{n:Nat}(h:gG P t=some n):(sizeOf t).run P w = .ok n w:=by
 unfold gG at h;cases b:P.info? t with
 | none=>simp[b]at h
 | some i=>simp[b]at h;simp[sizeOf,JI b,h]
theorem rz {t:TypeId}{i:TypeInfo}{v:Value}(h:P.info? t=some i) (b:i.zero=some v):(zeroValue t).run P w = .ok v w:=by simp[zeroValue,JI h,b]
theorem yY {t:TypeId}(h:nO P t=some none):(isAgg t).run P w = .ok false w:=by
 unfold nO at h;cases b:P.underlying t with
 | none=>simp[b]at h
 | some d=>
   rw[b]at h;cases d<;>first
    | (simp[isAgg,ru b];done)
    | (simp only at h;cases hs:gG P t<;>simp[hs]at h)
theorem yX {t:TypeId}{n:Nat}(h:nO P t=some (some n)):(isAgg t).run P w = .ok true w/\gG P t=some n:=by
 unfold nO at h;cases b:P.underlying t with
 | none=>simp[b]at h
 | some d=>
   rw[b]at h;cases d<;>first
    | (simp at h;done)
    | (simp only at h;refine⟨by simp[isAgg,ru b],?_⟩;cases hs:gG P t<;>simp_all)
theorem xB {v:Value}{x:LV}(h:sW v=some x):Rv μ ι w x v:=by
 unfold sW at h;split at h<;>first | (cases h;constructor;done) | (cases h;done) | skip
theorem iK {α g:Type}{f:α->Option g} : ∀ {l:List α}{r:List g},l.mapM f=some r->r.length=l.length/\∀ i (h:i<l.length),∃ y,r[i]? = some y/\f l[i]=some y:=by
 intro l;induction l with
 | nil=>intro r h;simp at h;subst h;exact⟨rfl,λi h=>absurd h (Nat.not_lt_zero _)⟩
 | cons a l ih=>
   intro r h;rw[List.mapM_cons]at h;cases d:f a with
   | none=>simp[d]at h
   | some b=>
     cases hl:l.mapM f with
     | none=>simp[d,hl]at h
     | some n=>
       simp[d,hl]at h;subst h;obtain⟨h1,h2⟩:=ih hl;refine⟨by simp[h1],λi j=>?_⟩;cases i with
       | zero=>exact⟨b,by simp,by simpa using d⟩
       | succ i=>obtain⟨y,k,m⟩:=h2 i (by simpa using j);exact⟨y,by simpa using k,by simpa using m⟩
theorem Cq {α:Type}{l:List α}{i:Nat}{y d:α}(h:l[i]? = some y):l.getD i d=y:=by simp[gD,h]
theorem nj {v:Value}{x:LV}(h:mV v=some x):Rv μ ι w x v:=by
 unfold mV at h;split at h
 ·rename_i cs;cases hm:cs.toList.mapM sW with
  | none=>simp[hm]at h
  | some l=>
    simp[hm]at h;subst h;obtain⟨h1,h2⟩:=iK hm;refine .agg (by simp[h1]) (λi b=>?_);obtain⟨y,f,hs⟩:=h2 i (by rw[<- h1];exact b);rw[Cq f];have d:i<cs.size:=by simpa[h1] using b
    have:cs.getD i undef=cs.toList[i]'(by simpa using d):=by simp[gF,d]
    rw[this];exact xB hs
 ·split at h
  ·rename_i vs h0;cases h;have:vs = #[]:=by apply Array.ext';exact List.length_eq_zero_iff.1 h0
   subst this;exact .cy rfl (λi b=>absurd b (Nat.not_lt_zero _))
  ·cases h
 ·exact xB h
theorem vu {v:LV}{x:Value}(b:Rv μ ι w v x) (h:aV v=true):x.oneCell'=true:=by
 cases b<;>first | rfl | (simp[aV]at h;done)
theorem iz {v:LV}{x:Value}{cs:List LV}(b:Rv μ ι w v x) (h:cells? v=some cs) :
 x.cells.size=cs.length/\(∀ i,i<cs.length->Rv μ ι w (cs.getD i .top) (x.cells.getD i undef))/\cs.all aV=true:=by
 cases b with
 | agg hl d=>
   simp only[cells?]at h;split at h
   ·rename_i f;cases h;exact⟨hl,d,f⟩
   ·cases h
 | top=>cases h
 | cy=>cases h
 | _ =>
   cases h;refine⟨rfl,λi g=>?_,rfl⟩;obtain rfl:i=0:=by simpa using g
   first
    | exact .bool _ | exact .int _ _ | exact .str _ | exact .eu | exact .aj | exact .jh | exact .ld | exact .bN
    | (constructor<;>assumption)
theorem Lx {v:LV}{x:Value}{cs:List LV}(f:Rv μ ι w v x) (h:cells? v=some cs):∀ y∈x.cells.toList,y.oneCell'=true:=by
 obtain⟨h1,h2,h3⟩:=iz f h;intro y g;obtain⟨i,b,rfl⟩:=List.getElem_of_mem g;have d:i<cs.length:=by rw[<- h1];simpa using b
 have:=vu (h2 i d) (by
  rw[List.all_eq_true]at h3;refine h3 _ ?_;simp[gD,d])
 have j:i<x.cells.size:=by simpa using b
 simpa[gF,j] using this
end
section
variable {P:Program}{w:World}{w0:Bs}{μ:Mu}{ι:Io}{δ:Nat->Prop}{s s':St}{cmp:Nat->bp->Code->Prop}
theorem dK (cs:List LV) (off k i:Nat) (hi:i<k):((cs.drop off).take k).getD i .top=cs.getD (off+i) .top:=by
 simp[gD,hi]
theorem mc {t:TypeId}{n:Option Nat}(p:nO P t=some n) {cs:List LV}{b o off:Nat}{v:LV}
 (q:∀ i,i<cs.length->∃ x,w.cell? ⟨b,o+i,none⟩=some x/\Rv μ ι w (cs.getD i .top) x) (l:aT n cs off=some v) :
 ∃ x,(loadVar t ⟨b,o+off,none⟩).run P w = .ok x w/\Rv μ ι w v x:=by
 cases n with
 | none=>
   simp only[aT]at l;obtain⟨r,rfl⟩:=List.getElem?_eq_some_iff.1 l;obtain⟨x,hx,m⟩:=q off r;refine⟨x,by simp[loadVar,yY p,hx],?_⟩;simpa[gD,r] using m
 | some k=>
   simp only[aT]at l;split at l
   ·rename_i B;cases l;obtain⟨h1,h2⟩:=yX (w:=w) p;have u:∀ i,∃ x,i<k->(w.cell? ⟨b,o+off+i,none⟩=some x/\Rv μ ι w (cs.getD (off+i) .top) x):=λi=>by
     by_cases d:i<k
     ·obtain⟨x,hx,m⟩:=q (off+i) om;exact⟨x,λ_=>⟨by rw[<- hx];congr 2;omega,m⟩⟩
     ·exact⟨undef,λh=>absurd h d⟩
    let f:Nat->Value:=λi=>Classical.choose (u i);have y:∀ i,i<k->(w.cell? ⟨b,o+off+i,none⟩=some (f i)/\Rv μ ι w (cs.getD (off+i) .top) (f i)):=λi d=>Classical.choose_spec (u i) d;have z:=run_loadCells (P:=P) (w:=w) b (o+off) ((List.range k).map f) (λj C=>by
     have A:j<k:=by simpa using C
     rw[(y j A).1];simp[gD,A])
    rw[List.length_map,List.length_range]at z;refine⟨.agg ((List.range k).map f).toArray,by simp[loadVar,h1,wj h2,z],?_⟩;have g:((cs.drop off).take k).length=k:=by simp;omega
    refine .agg (by simp[g]) (λi d=>?_);rw[g]at d;rw[dK _ _ _ _ d];have:=(y i d).2;simpa[gF,d] using this
   ·cases l
theorem DH {t:TypeId}{n:Option Nat}(f:nO P t=some n) {cs:List LV}{vs:Array Value}{off:Nat}{v:LV}
 (hl:vs.size=cs.length) (h:∀ i,i<cs.length->Rv μ ι w (cs.getD i .top) (vs.getD i undef)) (d:aT n cs off=some v) :
 ∃ x,(part t vs off).run P w = .ok x w/\Rv μ ι w v x:=by
 cases n with
 | none=>
   simp only[aT]at d;obtain⟨g,rfl⟩:=List.getElem?_eq_some_iff.1 d;have m:=h off g;have j:off<vs.size:=by omega
   refine⟨vs[off],by simp[part,yY f,j],?_⟩;simpa[gD,g,gF,j] using m
 | some k=>
   simp only[aT]at d;split at d
   ·rename_i p;cases d;obtain⟨h1,h2⟩:=yX (w:=w) f;refine⟨.agg (vs.extract off (off+k)),by simp[part,h1,wj h2],?_⟩;have b:((cs.drop off).take k).length=k:=by simp;omega
    refine .agg (by simp[b];omega) (λi l=>?_);rw[b]at l;rw[dK _ _ _ _ l];have:=h (off+i) om;have hx:(vs.extract off (off+k)).getD i undef=vs.getD (off+i) undef:=by
     simp only[gF,Array.getElem?_extract];rw[if_pos om]
    rw[hx];exact this
   ·cases d
theorem Inv.Jl (I:Inv cmp w0 μ ι δ s w) {id:Nat}{m:Md}{cs:List LV}{p:Place}(d:s.get id=some (.cells m cs)) (f:μ id=some p) :
 ∀ i,i<cs.length->∃ x,w.cell? ⟨p.b,p.off+i,none⟩=some x/\Rv μ ι w (cs.getD i .top) x:=λi g=>by
 obtain⟨_,h1,h2,_⟩:=I.dD id _ p d f;obtain⟨x,hx,_,h⟩:=h2 i om;exact⟨x,hx,h g⟩
theorem Inv.yQ (I:Inv cmp w0 μ ι δ s w) {id:Nat}{m:Md}{cs:List LV}{p:Place}(d:s.get id=some (.cells m cs)) (f:μ id=some p) :
 ∀ i,i<cs.length->∃ x,w.cell? ⟨p.b,p.off+i,none⟩=some x/\x.oneCell'=true/\Rv μ ι w (cs.getD i .top) x:=λi g=>by
 obtain⟨_,h1,h2,_⟩:=I.dD id _ p d f;obtain⟨x,hx,ho,h⟩:=h2 i om;exact⟨x,hx,ho,h g⟩
theorem Gx {t:TypeId}{op:BinOp}{k:IntKind}{x y:Int}{v:LV}(h:uP op k x y=some v) (hs:op≠.shl/\op≠.shr) :
 ∃ u,(binOp op t (.int k x) (.int k y)).run P w = .ok u w/\Rv μ ι w v u:=by
 cases op<;>simp only[uP]at h<;>first
  | (cases h;refine⟨_,by simp[binOp,Op.intArith];rfl,by constructor⟩;done)
  | (cases h;refine⟨_,by simp[binOp,Op.intBits];rfl,by constructor⟩;done)
  | (cases h;refine⟨_,by simp[binOp,Op.intCmp];rfl,by constructor⟩;done)
  | (split at h;cases h;rename_i h0;cases h;refine⟨_,by simp[binOp,Op.intDiv,h0];rfl,by constructor⟩;done)
  | (exact absurd rfl hs.1) | (exact absurd rfl hs.2)
end
section
variable {P:Program}{w:World}{w0:Bs}{μ:Mu}{ι:Io}{δ:Nat->Prop}{s s':St}{cmp:Nat->bp->Code->Prop}
def Ra (μ:Mu) (ι:Io) (w:World) (cs:List LV) (vs:Array Value):Prop:=vs.size=cs.length/\∀ i,i<cs.length->Rv μ ι w (cs.getD i .top) (vs.getD i undef)
theorem Ra.set {cs:List LV}{vs:Array Value}(h:Ra μ ι w cs vs) {v:LV}{x:Value}(d:Rv μ ι w v x) (i:Nat):Ra μ ι w (cs.set i v) (vs.setIfInBounds i x):=by
 refine⟨by simp[h.1],λj f=>?_⟩;have b:j<cs.length:=by simpa using f
 have g:j<vs.size:=by rw[h.1];exact b
 by_cases e:i=j
 ·subst e;simpa[gD,gF,b,g] using d
 ·have:=h.2 j b;simpa[gD,gF,List.getElem?_set,Array.getElem?_setIfInBounds,e] using this
theorem Ra.splice (new:List LV):∀ (xs:List Value) (off n:Nat) (cs:List LV) (vs:Array Value),Ra μ ι w cs vs->xs.length=new.length ->
 (∀ i,i<new.length->Rv μ ι w (new.getD i .top) (xs.getD i undef)) ->
 Ra μ ι w (splice cs (off+n) new) ((xs.zipIdx n).foldl (λcs x=>cs.setIfInBounds (off+x.2) x.1) vs):=by
 induction new with
 | nil=>intro xs off n cs vs h hl _;simp at hl;subst hl;exact h
 | cons v new ih=>
   intro xs off n cs vs h hl b;cases xs with
   | nil=>simp at hl
   | cons x xs=>
     simp only[List.zipIdx_cons,List.foldl_cons,Pv.splice];rw[show off+n+1=off+(n+1) from by omega];refine ih xs off (n+1) _ _ (h.set (by simpa using b 0 (by simp)) _) (by simpa using hl) (λi d=>?_);have:=b (i+1) (by simpa using d);simpa using this
theorem tX {place:Nat->Option (Nat × Nat)} : ∀ (ps:List (Nat × Value)) (ls:List (Nat × Nat × LV)) (cs cs':List LV) (vs:Array Value),Ra μ ι w cs vs->ps.length=ls.length ->
 (∀ (i:Nat) (h:i<ps.length) (f:i<ls.length),place (ps[i].1)=some (ls[i].1,ls[i].2.1)/\Rv μ ι w ls[i].2.2 ps[i].2)->aW cs ls=some cs' ->
 ∃ vs',Instr.fill place vs ps=some vs'/\Ra μ ι w cs' vs':=by
 intro ps;induction ps with
 | nil=>
   intro ls cs cs' vs h hl _ b;obtain rfl:ls=[]:=by simpa using hl.symm
   simp[aW]at b;subst b;exact⟨vs,rfl,h⟩
 | cons p ps ih=>
   intro ls cs cs' vs h hl g b;cases ls with
   | nil=>simp at hl
   | cons l ls=>
     obtain⟨i,x⟩:=p;obtain⟨off,size,v⟩:=l;have h0:=g 0 (by simp) (by simp);simp only[List.getElem_cons_zero]at h0;simp only[aW]at b;cases d:cells? v with
     | none=>simp[d]at b
     | some new=>
       simp only[d]at b;split at b
       ·rename_i k;obtain⟨h1,h2,h3⟩:=iz h0.2 d;have m:=Ra.splice (new:=new) x.cells.toList off 0 cs vs h (by simp[h1]) (λi j=>by
         have:=h2 i j;have n:i<x.cells.size:=by rw[h1];exact j
         simpa[gD,gF,n] using this)
        obtain⟨vs',q,r⟩:=ih ls _ cs' _ m (by simpa using hl) (λi h f=>by
         have:=g (i+1) (by simpa using h) (by simpa using f);simpa using this) b
        refine⟨vs',?_,r⟩;simp only[Instr.fill,h0.1];rw[if_neg (by simp[h1,k.1,h.1];omega)];rw[<- q];congr 1;rw[<- Array.foldl_toList];simp
       ·cases b
theorem N0 {α i:Type}{f:α->Sem i}{g:α->Option i}(j:∀ a b,g a=some b->(f a).run P w = .ok b w):∀ (l:List α) (r:List i),l.mapM g=some r->(l.mapM f).run P w = .ok r w:=by
 intro l;induction l with
 | nil=>intro r h;simp at h;subst h;rfl
 | cons a l ih=>
   intro r h;rw[List.mapM_cons]at h ⊢;cases d:g a with
   | none=>simp[d]at h
   | some b=>
     cases hl:l.mapM g with
     | none=>simp[d,hl]at h
     | some k=>
       simp[d,hl]at h;subst h;simp[j a b d,ih k hl]
theorem m9 {t:TypeId}{z:List LV}(h:oJ P t=some z):∃ v,(zeroValue t).run P w = .ok v w/\Ra μ ι w z v.cells/\(∀ y∈z,aV y=true):=by
 unfold oJ at h;cases b:P.info? t with
 | none=>simp[b]at h
 | some i=>
   cases d:i.zero with
   | none=>simp[b,d]at h
   | some v=>
     cases f:mV v with
     | none=>simp[b,d,f]at h
     | some x=>
       simp[b,d,f]at h;obtain⟨h1,h2,h3⟩:=iz (nj (μ:=μ) (ι:=ι) (w:=w) f) h;exact⟨v,rz b d,⟨h1,h2⟩,by simpa using h3⟩
variable {c:Ctx}{e:Env}{a:Act}
def iL (a:Act) (ps:List (Nat × Operand)):List (Nat × Value):=ps.map λq=>(q.1,a.eval q.2)
theorem pP {place:Nat->Option (Nat × Nat)}{ps:List (Nat × Operand)}{ls:List (Nat × Nat × bz)}(h:partsOf c place ps=some ls)
 (g:∀ x y,x∈ps.map (·.2)->cB c x=some y->Rv μ ι w (y.ev e) (a.eval x)) :
 (iL a ps).length=(bB e ls).length /\
 ∀ (i:Nat) (h:i<(iL a ps).length) (m:i<(bB e ls).length),place ((iL a ps)[i].1)=some ((bB e ls)[i].1,(bB e ls)[i].2.1)/\Rv μ ι w (bB e ls)[i].2.2 (iL a ps)[i].2:=by
 obtain⟨h1,h2⟩:=iK h;refine⟨by simp[iL,bB,h1],λi j k=>?_⟩;have f:i<ps.length:=by simpa[iL] using j
 have hl:i<ls.length:=by simpa[bB] using k
 obtain⟨y,l,b⟩:=h2 i f;obtain⟨n,rfl⟩:=List.getElem?_eq_some_iff.1 l;simp only[iL,bB,List.getElem_map];cases d:place ps[i].1 with
 | none=>simp[d]at b
 | some q=>
   cases ho:cB c ps[i].2 with
   | none=>simp[d,ho]at b
   | some z=>
     simp[d,ho]at b;rw[<- b];exact⟨rfl,g _ _ (List.mem_map.2 ⟨ps[i],List.getElem_mem f,rfl⟩) ho⟩
theorem xK {l:List Operand}{r:List bz}(h:xL c l=some r) (d:∀ x y,x∈l->cB c x=some y->Rv μ ι w (y.ev e) (a.eval x)) :
 Ra μ ι w (r.map (·.ev e)) (l.map a.eval).toArray:=by
 obtain⟨h1,h2⟩:=iK h;refine⟨by simp[h1],λi f=>?_⟩;have b:i<l.length:=by simpa[h1] using f
 obtain⟨y,g,j⟩:=h2 i b;have:=d l[i] y (List.getElem_mem b) j;have k:i<r.length:=by omega
 obtain⟨_,rfl⟩:=List.getElem?_eq_some_iff.1 g;simpa[gD,gF,b,k] using this
theorem kS {len:Nat}{v:LV}{x:Value}{k:Nat}(d:Rv μ ι w v x) (h:idxOf len v=some k):∃ kd i,x = .int kd i/\(asIntOf x).run P w = .ok (kd,i) w/\0<=i/\i<len/\k=i.toNat:=by
 cases d<;>simp only[idxOf]at h<;>try (cases h;done)
 split at h
 ·rename_i b;cases h;exact⟨_,_,rfl,by simp[asIntOf],b.1,b.2,rfl⟩
 ·cases h
theorem Ku {v:LV}{x:Value}{n:Nat}(d:Rv μ ι w v x) (h:me v=some n):(∃ b c,x = .slice b n c)∨(∃ s,x = .string s/\s.size=n):=by
 cases d<;>simp only[me]at h<;>first
  | (cases h;done)
  | (cases h;exact .inl ⟨_,_,rfl⟩)
  | (cases h;exact .inr ⟨_,rfl,rfl⟩)
end
section
variable {w:World}{w0:Bs}{μ:Mu}{ι:Io}{δ:Nat->Prop}{s s':St}{cmp:Nat->bp->Code->Prop}{c:Ctx}{e:Env}{a:Act}
theorem bind_some {α d:Type}{x:Option α}{f:α->Option d}{b:d}(h:(x >>= f)=some b):∃ a,x=some a/\f a=some b:=by
 cases x with
 | none=>cases h
 | some a=>exact⟨a,rfl,h⟩
theorem cP {α d:Type}{x:Option α}{f:α->d}{b:d}(h:x.map f=some b):∃ a,x=some a/\f a=b:=by
 cases x with
 | none=>cases h
 | some a=>exact⟨a,rfl,by simpa using h⟩
def Ho (μ:Mu) (ι:Io) (w:World) (c:Ctx) (e:Env) (a:Act) (o:Oper):Prop:=∀ x y,x∈o.op.operands.toList->cB c x=some y->Rv μ ι w (y.ev e) (a.eval x)
def dx (μ:Mu) (ι:Io) (w:World) (P:Program) (a:Act) (o:Oper) (v:LV):Prop:=∃ x,(execOp a.eval o).run P w = .ok (.value x) w/\Rv μ ι w v x
theorem Ko (I:Inv cmp w0 μ ι δ s w) {o:Oper}{t:TypeId}{x:Operand}(ho:o.op = .load t x) (l:Ho μ ι w c e a o) {n:Option Nat}(j:nO c.P t=some n) {y:bz}(p:cB c x=some y)
 {v:LV}(b:(aR.load n y).run e s=some (v,s')):s'=s/\dx μ ι w c.P a o v:=by
 have hx:=l x y (by simp[ho,Op.operands]) p;simp only[aR.run]at b;generalize y.ev e=lv at *;generalize k:a.eval x=A at *;cases hx<;>simp only at b<;>try (cases b;done)
 ·rename_i vs q d B h;obtain⟨v',h1,h2⟩:=bind_some b;cases h2;obtain⟨u,f,g⟩:=mc (w:=w) j (λi d=>⟨_,q i d,h i d⟩) h1;refine⟨rfl,u,?_,g⟩;simp[execOp,ho,k,Instr.loadAt,Instr.sureAddr,f]
 ·rename_i r;split at b
  ·rename_i m cs z;obtain⟨v',h1,h2⟩:=bind_some b;cases h2;obtain⟨u,f,g⟩:=mc (w:=w) j (I.Jl z r) h1;refine⟨rfl,u,?_,g⟩;simp[execOp,ho,k,Instr.loadAt,Instr.sureAddr,f]
  ·cases b
theorem sX {t:TypeId}{i:cL}{x y:LV}{u v:Value}{b:Bool}(hx:Rv μ ι w x u) (j:Rv μ ι w y v) (h:wh i x y=some b) (f:pM c.P t=some i) (d:Nat) :
 (Op.equalIn (d+1) t u v).run c.P w = .ok b w:=by
 unfold pM at f;cases g:c.P.underlying t with
 | none=>simp[g]at f
 | some k=>
   rw[g]at f;cases k<;>simp only[Option.some.injEq,reduceCtorEq]at f<;>subst f<;>cases hx<;>simp only[wh,reduceCtorEq]at h<;>cases j<;>simp only[reduceCtorEq]at h
   ·cases h;simp[Op.equalIn,ru g]
   ·split at h
    ·cases h;rename_i e;subst e;simp[Op.equalIn,ru g]
    ·cases h
   ·cases h;simp[Op.equalIn,ru g]
theorem kP {t:TypeId}{d:cL}(h:pM c.P t=some d):(isAgg t).run c.P w = .ok false w:=by
 unfold pM at h;cases b:c.P.underlying t with
 | none=>simp[b]at h
 | some f=>
   rw[b]at h;cases f<;>simp only[Option.some.injEq,reduceCtorEq]at h<;>simp[isAgg,ru b]
theorem EP (d:Nat) {xs ys:List LV}{us vs:Array Value}(hx:Ra μ ι w xs us) (hy:Ra μ ι w ys vs):∀ (fs:List Field) (es:List (Nat × Nat × cL)) (b:Bool),
 fs.all (fun f => f.name != "_") = true -> mE c.P fs = some es -> jP.eqFields es xs ys = some b ->
 (Op.eqFields (d+1) us vs fs).run c.P w = .ok b w:=by
 intro fs;induction fs with
 | nil=>intro es b _ hm he;simp[mE]at hm;subst hm;simp[jP.eqFields]at he;subst he;rfl
 | cons f fs ih=>
   intro es b ha hm he;unfold mE at hm;rw[List.mapM_cons]at hm;cases hs:pM c.P f.type with
   | none=>simp[hs]at hm
   | some et=>
     cases hl:fs.mapM (λf=>(pM c.P f.type).map λe=>(f.offset,1,e)) with
     | none=>simp[hs,hl]at hm
     | some es' =>
       simp[hs,hl]at hm;subst hm;simp only[jP.eqFields]at he;split at he
       ·rename_i x y gx gy;obtain⟨lx,rfl⟩:=List.getElem?_eq_some_iff.1 gx;obtain⟨ly,rfl⟩:=List.getElem?_eq_some_iff.1 gy;have rx:=hx.2 _ lx;have ry:=hy.2 _ ly;have Yo:f.offset<us.size:=by rw[hx.1];exact lx
        have Yn:f.offset<vs.size:=by rw[hy.1];exact ly
        simp only[gD,lx,gE,Option.getD_some,gF,Yo,Array.getElem?_eq_getElem]at rx;simp only[gD,ly,gE,Option.getD_some,gF,Yn,Array.getElem?_eq_getElem]at ry;simp only[List.all_cons,Bool.and_eq_true,bne_iff_ne,ne_eq]at ha;have CU:(part f.type us f.offset).run c.P w = .ok us[f.offset] w:=by simp[part,kP hs,Yo]
        have Fi:(part f.type vs f.offset).run c.P w = .ok vs[f.offset] w:=by simp[part,kP hs,Yn]
        split at he
        ·rename_i vK;have:=sX (c:=c) rx ry vK hs d;simp[Op.eqFields,ha.1,CU,Fi,this];exact ih es' b ha.2 hl he
        ·rename_i vK;cases he;have:=sX (c:=c) rx ry vK hs d;simp[Op.eqFields,ha.1,CU,Fi,this]
        ·cases he
       ·cases he
theorem Cu {xs d:List LV} : ∀ (a b:List (Nat × Nat × cL)) {r:Bool},jP.eqFields (a++b) xs d=some r->∃ r1,jP.eqFields a xs d=some r1/\(r1=true->jP.eqFields b xs d=some r)/\(r1=false->r=false):=by
 intro a;induction a with
 | nil=>intro b r h;exact⟨true,rfl,λ_=>h,λh=>by cases h⟩
 | cons p a ih=>
   obtain⟨off,n,t⟩:=p;intro b r h;simp only[List.cons_append,jP.eqFields]at h ⊢;split at h
   ·rename_i x y hx f;cases hs:wh t x y with
    | none=>rw[hs]at h;cases h
    | some q=>
      rw[hs]at h;cases q with
      | true=>exact ih b h
      | false=>cases h;exact⟨false,rfl,λh=>(by cases h),λ_=>rfl⟩
   ·cases h
theorem yz {α:Type}{xs:List α}{off n q:Nat}(h:q<n):((xs.drop off).take n)[q]? = xs[off+q]? := by
 rw[List.getElem?_take_of_lt h,List.getElem?_drop]
theorem yF {off n:Nat}{xs d:List LV} : ∀ (l:List (Nat × Nat × cL)) {r:Bool},(∀ p∈l,p.1<n)->jP.eqFields (l.map λp=>(off+p.1,p.2)) xs d=some r ->
 jP.eqFields l ((xs.drop off).take n) ((d.drop off).take n)=some r:=by
 intro l;induction l with
 | nil=>intro r _ h;exact h
 | cons p l ih=>
   obtain⟨q,k,t⟩:=p;intro r hl h;have f:q<n:=hl _ (.head _);simp only[List.map_cons,jP.eqFields]at h ⊢;rw[yz f,yz f];split at h
   ·rename_i x y hx i;cases hs:wh t x y with
    | none=>rw[hs]at h;cases h
    | some b=>
      rw[hs]at h;cases b with
      | true=>exact ih (λp g=>hl p (.tail _ g)) h
      | false=>exact h
   ·cases h
theorem Ai {P:Program}{n:Nat} : ∀ (gs:List Field) {l:List (Nat × Nat × cL)},mE P gs=some l->(∀ g∈gs,g.offset<n)->∀ p∈l,p.1<n:=by
 intro gs;induction gs with
 | nil=>intro l h _ p b;simp[mE]at h;subst h;cases b
 | cons g gs ih=>
   intro l h i p b;unfold mE at h;rw[List.mapM_cons]at h;cases hs:pM P g.type with
   | none=>simp[hs]at h
   | some j=>
     cases hl:gs.mapM (λf=>(pM P f.type).map λe=>(f.offset,1,e)) with
     | none=>simp[hs,hl]at h
     | some k =>
       simp[hs,hl]at h;subst h;rcases List.mem_cons.1 b with rfl | b
       ·exact i g (.head _)
       ·exact ih hl (λg d=>i g (.tail _ d)) p b
theorem H9 {xs:List LV}{us:Array Value}(h:Ra μ ι w xs us) (off n:Nat):Ra μ ι w ((xs.drop off).take n) (us.extract off (off+n)):=by
 have hs:=h.1;refine⟨by simp only[Array.size_extract,List.length_take,List.length_drop];omega,λi b=>?_⟩;simp only[List.length_take,List.length_drop]at b;have:=h.2 (off+i) om;rw[gD,yz om,<- gD,gF,Array.getElem?_extract,if_pos om,<- gF];exact this
theorem vU {P:Program}{f:Field}{a:List (Nat × Nat × cL)}(h:PL P f=some a):(∃ e,pM P f.type=some e/\a=[(f.offset,1,e)]) ∨
 ∃ gs n l, P.underlying f.type = some (.struct gs) /\ gG P f.type = some n /\ P.stoodInHeld f.type = false /\ gs.toList.all (fun g => g.name != "_") = true /\ (∀ g ∈ gs.toList, g.offset < n) /\ mE P gs.toList = some l /\ a = l.map (fun p => (f.offset + p.1, p.2)) := by
 unfold PL at h;split at h
 ·rename_i e he;cases h;exact .inl ⟨e,he,rfl⟩
 ·split at h
  ·rename_i gs n hu hn;split at h
   ·cases h
   ·rename_i hc;simp only[Bool.or_eq_true,not_or,Bool.not_eq_true,Bool.not_eq_false']at hc;obtain⟨l,hl,rfl⟩:=cP h;have h2:=hc.2;simp only[List.all_eq_true,Bool.and_eq_true]at h2;exact .inr ⟨gs,n,l,hu,hn,hc.1,List.all_eq_true.2 λg hg=>(h2 g hg).1,λg hg=>Nat.le_of_ble_eq_true (h2 g hg).2,hl,rfl⟩
  ·cases h
theorem ot (d:Nat) {xs ys:List LV}{us vs:Array Value}(hx:Ra μ ι w xs us) (hy:Ra μ ι w ys vs):∀ (fs:List Field) (es:List (Nat × Nat × cL)) (b:Bool),
 fs.all (fun f => f.name != "_") = true -> mT c.P fs = some es -> jP.eqFields es xs ys = some b -> (Op.eqFields (d + 2) us vs fs).run c.P w = .ok b w := by
 intro fs;induction fs with
 | nil=>intro es b _ hm he;simp[mT]at hm;subst hm;simp[jP.eqFields]at he;subst he;rfl
 | cons f fs ih=>
   intro es b ha hm he;simp only[mT]at hm;split at hm
   ·rename_i a hfa;split at hm
    ·rename_i es' hfs;cases hm;obtain⟨r1,h1,h2,h3⟩:=Cu a es' he;simp only[List.all_cons,Bool.and_eq_true,bne_iff_ne,ne_eq]at ha;have key:∃ u v,(part f.type us f.offset).run c.P w = .ok u w/\(part f.type vs f.offset).run c.P w = .ok v w/\(Op.equalIn (d+2) f.type u v).run c.P w = .ok r1 w:=by
      rcases vU hfa with⟨et,hs,rfl⟩ | ⟨gs,n,l,hu,hn,dO,bY,cm,hl,rfl⟩
      ·simp only[jP.eqFields]at h1;split at h1
       ·rename_i x y gx gy;obtain⟨lx,rfl⟩:=List.getElem?_eq_some_iff.1 gx;obtain⟨ly,rfl⟩:=List.getElem?_eq_some_iff.1 gy;have rx:=hx.2 _ lx;have ry:=hy.2 _ ly;have Yo:f.offset<us.size:=by rw[hx.1];exact lx
        have Yn:f.offset<vs.size:=by rw[hy.1];exact ly
        simp only[gD,lx,gE,Option.getD_some,gF,Yo,Array.getElem?_eq_getElem]at rx;simp only[gD,ly,gE,Option.getD_some,gF,Yn,Array.getElem?_eq_getElem]at ry;refine⟨us[f.offset],vs[f.offset],by simp[part,kP hs,Yo],by simp[part,kP hs,Yn],?_⟩;split at h1
        ·rename_i vK;cases h1;exact sX (c:=c) rx ry vK hs (d+1)
        ·rename_i vK;cases h1;exact sX (c:=c) rx ry vK hs (d+1)
        ·cases h1
       ·cases h1
      ·have hp:∀ zs:Array Value,(part f.type zs f.offset).run c.P w = .ok (.agg (zs.extract f.offset (f.offset+n))) w:=λzs=>by
        simp[part,isAgg,ru hu,wj hn]
       have hf:c.P.fieldsOf f.type=gs:=by simp[Program.fieldsOf,hu]
       refine⟨_,_,hp us,hp vs,?_⟩;rw[run_equalIn_struct (P:=c.P) w (d+1) f.type _ _ (by rw[hf];exact hu) dO,hf];exact EP (c:=c) d (H9 hx f.offset n) (H9 hy f.offset n) gs.toList l r1 bY hl (yF l (Ai _ hl cm) h1)
     obtain⟨u,v,k1,k2,k3⟩:=key;cases r1 with
     | true=>
       simp[Op.eqFields,ha.1,k1,k2,k3];exact ih es' b ha.2 hfs (h2 rfl)
     | false=>
       obtain rfl:=h3 rfl;simp[Op.eqFields,ha.1,k1,k2,k3]
    ·cases hm
   ·cases hm
theorem Bg {t:TypeId}{u v:Value}{b:Bool}(h:(Op.equalIn 10000 t u v).run c.P w = .ok b w):(Op.equal t u v).run c.P w = .ok b w:=h
theorem Jg {t:TypeId}{u v:Value}{b:Bool}(n:Nat) (h:∀ d,(Op.equalIn (d+1) t u v).run c.P w = .ok b w):(Op.equalIn (n+1) t u v).run c.P w = .ok b w:=h n
theorem tZ {t:TypeId}{u v:Value}{b:Bool}{ox oy:Operand}{op:BinOp}(f:op = .eql∨op = .neq) (d:(eqGuard op t ox oy u v).run c.P w = .ok () w)
 (h1:binOp .eql t u v=(do pure (.bool (<- Op.equal t u v)))) (h2:binOp .neq t u v=(do pure (.bool (!(<- Op.equal t u v))))) (h:(Op.equalIn 10000 t u v).run c.P w = .ok b w) :
 ((do eqGuard op t ox oy u v;binOp op t u v):Sem Value).run c.P w = .ok (.bool (if op = .eql then b else !b)) w:=by
 rcases f with rfl | rfl
 ·rw[Sem.run_bind,d,Result.andThen_ok,h1,Sem.run_bind,Bg h];rfl
 ·rw[Sem.run_bind,d,Result.andThen_ok,h2,Sem.run_bind,Bg h];rfl
theorem XY {t:TypeId}{q:cL}{x y:LV}{u v:Value}{b:Bool}(hx:Rv μ ι w x u) (m:Rv μ ι w y v) (f:Ll c.P t=some q) (h:jP q x y=some b) (ox oy:Operand) (op:BinOp) (i:op = .eql∨op = .neq)
 (A:∀ k,c.P.underlying t≠some (.int k)) (j:c.P.underlying t≠some .string) :
 ((do eqGuard op t ox oy u v;binOp op t u v):Sem Value).run c.P w = .ok (.bool (if op = .eql then b else !b)) w:=by
 unfold Ll at f;cases g:c.P.underlying t with
 | none=>simp[g]at f
 | some B=>
   rw[g]at f;cases B<;>simp only[reduceCtorEq]at f
   case int k=>exact absurd g (A k)
   case string=>exact absurd g j
   case bool=>
    have l:=f;unfold pM at l;rw[g]at l;simp only[Option.some.injEq]at l;subst l;cases hx<;>simp only[jP,wh,reduceCtorEq]at h<;>cases m<;>simp only[reduceCtorEq]at h;cases h;exact tZ i (by rcases i with rfl | rfl<;>simp[eqGuard]) rfl rfl (Jg 9999 (by intro d;unfold Op.equalIn;simp[ru g]))
   case struct fs=>
    split at f
    ·cases f
    ·rename_i j;simp only[Bool.or_eq_true,not_or,Bool.not_eq_true]at j;split at f
     ·rename_i C;obtain⟨D,E,rfl⟩:=cP f;cases hx<;>simp only[jP,wh,reduceCtorEq]at h<;>cases m<;>simp only[reduceCtorEq]at h;rename_i xs F G n I vs H p;have r:c.P.fieldsOf t=fs:=by simp[Program.fieldsOf,g]
      have z:=run_equalIn_struct (P:=c.P) w 9999 t F vs (by rw[r];exact g) j.1;rw[r,ot (c:=c) 9997 ⟨G,n⟩ ⟨H,p⟩ fs.toList D b C E h]at z;exact tZ i (run_eqGuard_agg w _ _ _ _ _ _ j.2) rfl rfl z
     ·cases f
   all_goals
    cases f;cases hx<;>simp only[jP,wh,reduceCtorEq]at h<;>cases m<;>simp only[reduceCtorEq]at h<;>cases h<;>
     exact tZ i (by rcases i with rfl | rfl<;>simp[eqGuard]) rfl rfl (Jg 9999 (by intro d;unfold Op.equalIn;simp[ru g]))
end
section
variable {w:World}{w0:Bs}{μ:Mu}{ι:Io}{δ:Nat->Prop}{s s':St}{cmp:Nat->bp->Code->Prop}{c:Ctx}{e:Env}{a:Act}{o:Oper}{v:LV}
theorem AQ {x:Operand}(ho:o.op = .move x∨o.op = .assign x) (b:Ho μ ι w c e a o) {y:bz}(d:cB c x=some y) (f:(aR.mv y).run e s=some (v,s')) :
 s'=s/\dx μ ι w c.P a o v:=by
 cases f;have hx:=b x y (by rcases ho with ho | ho<;>simp[ho,Op.operands]) d
 exact⟨rfl,a.eval x,by rcases ho with ho | ho<;>simp[execOp,ho],hx⟩
theorem Km {k x f:Operand}(ho:o.op = .pick k x f) (g:Ho μ ι w c e a o) {d y h:bz}(m:cB c k=some d) (n:cB c x=some y) (i:cB c f=some h)
 (j:(aR.pick d y h).run e s=some (v,s')):s'=s/\dx μ ι w c.P a o v:=by
 have h1:=g k d (by simp[ho,Op.operands]) m;have h2:=g x y (by simp[ho,Op.operands]) n;have h3:=g f h (by simp[ho,Op.operands]) i;simp only[aR.run]at j;generalize d.ev e=lk at *;generalize l:a.eval k=p at *;cases h1<;>simp only[reduceCtorEq]at j;cases j;rename_i b;refine⟨rfl,_,by simp[execOp,ho,l,asBool];rfl,?_⟩;cases b
 ·exact h3
 ·exact h2
theorem Gt {t:TypeId}{ps:Array (Nat × Operand)}(ho:o.op = .build t ps) (G:Ho μ ι w c e a o) {lo:aR}(d:bA c o=some lo) (j:lo.run e s=some (v,s')) :
 s'=s/\dx μ ι w c.P a o v:=by
 simp only[bA,ho]at d;obtain⟨z,H,d⟩:=bind_some d;obtain⟨Q,B,C,_⟩:=m9 (μ:=μ) (ι:=ι) (w:=w) H;have D:∀ x y,x∈ps.toList.map (·.2)->cB c x=some y->Rv μ ι w (y.ev e) (a.eval x):=λx y hx I=>G x y (by simpa[ho,Op.operands] using hx) I;have E:(ps.map λ(i,x)=>(i,a.eval x)).toList=iL a ps.toList:=by simp[iL]
 cases m:c.P.underlying t with
 | none=>simp[m]at d
 | some J=>
   rw[m]at d;cases J<;>simp only[reduceCtorEq]at d
   case struct fs=>
    obtain⟨p,K,d⟩:=bind_some d;obtain⟨ls,q,d⟩:=bind_some d;cases d;simp only[aR.run]at j;obtain⟨r,u,j⟩:=bind_some j;cases j;obtain⟨h1,h2⟩:=pP (μ:=μ) (ι:=ι) (w:=w) (e:=e) (a:=a) q D;obtain⟨k,A,l⟩:=tX _ _ _ _ _ C h1 h2 u;have L:(fs.mapM λf=>do pure (f.offset,<- sizeOf f.type):Sem _).run c.P w = .ok p.toArray w:=by
     rw[Array.mapM_eq_mapM_toList,Sem.run_map,N0 (g:=λf=>do some (f.offset,<- gG c.P f.type)) (λf b h=>by
      obtain⟨n,M,h⟩:=bind_some h;cases h;simp[wj M]) _ _ K]
     rfl
    have N:(λi:Nat=>(p.toArray[i]? : Option (Nat × Nat)))=(λi:Nat=>p[i]?):=by funext i;simp
    refine⟨rfl, .agg k,?_, .agg l.1 l.2⟩;simp only[execOp,ho,Instr.build,Sem.run_bind,B,Result.andThen_ok,ru m,L];simp only[E,N,A];simp
   case array n R=>
    obtain⟨F,O,d⟩:=bind_some d;obtain⟨ls,q,d⟩:=bind_some d;cases d;simp only[aR.run]at j;obtain⟨r,u,j⟩:=bind_some j;cases j;obtain⟨h1,h2⟩:=pP (μ:=μ) (ι:=ι) (w:=w) (e:=e) (a:=a) q D;obtain⟨k,A,l⟩:=tX (place:=λi=>some (i*F,F)) _ _ _ _ _ C h1 h2 u;refine⟨rfl, .agg k,?_, .agg l.1 l.2⟩;simp only[execOp,ho,Instr.build,Sem.run_bind,B,Result.andThen_ok,ru m,wj O];simp only[E,A];simp
theorem DU {x:Operand}(ho:o.op = .nilCheck x) (i:Ho μ ι w c e a o) {y:bz}(j:cB c x=some y) (b:(aR.bP y).run e s=some (v,s')):s'=s/\dx μ ι w c.P a o v:=by
 have hx:=i x y (by simp[ho,Op.operands]) j;unfold aR.run at b;dsimp only at b;generalize y.ev e=lv at *;generalize d:a.eval x=p at *;cases hx<;>try (cases b;done)
 case aX vs k l m h=>cases b;exact⟨rfl,_,by simp only[execOp,ho,d];rfl, .aX vs k l m h⟩
 case aH g=>cases b;exact⟨rfl,_,by simp only[execOp,ho,d];rfl, .aH g⟩
 case fn f q r t u h1 h2 h3 n=>
  cases f<;>simp only[reduceCtorEq]at b;cases b;exact⟨rfl,_,by simp only[execOp,ho,d];rfl, .fn h1 h2 h3 n⟩
 case qp g=>cases b;exact⟨rfl,_,by simp only[execOp,ho,d];rfl, .qp g⟩
theorem FK {t:TypeId}{op:BinOp}{x y:ByteArray}(h:FL op x y=some v):∃ u,(binOp op t (.string x) (.string y)).run c.P w = .ok u w/\Rv μ ι w v u:=by
 cases op<;>simp only[FL]at h<;>first
  | (cases h;done)
  | (split at h;cases h;rename_i h0;cases h;refine⟨_,by simp only[binOp,Op.stringOp];rw[if_neg h0];rfl,by constructor⟩;done)
  | (cases h;refine⟨_,by simp only[binOp,Op.stringOp];rfl,by constructor⟩;done)
theorem LC {t:TypeId}{op:BinOp}{x y:LV}{u v':Value}(hx:Rv μ ι w x u) (g:Rv μ ι w y v') (h:iA op x y=some v) :
 ∃ r,(binOp op t u v').run c.P w = .ok r w/\Rv μ ι w v r/\∀ ox oy,(eqGuard op t ox oy u v').run c.P w = .ok () w:=by
 cases hx<;>simp only[iA,reduceCtorEq]at h<;>cases g<;>simp only[reduceCtorEq]at h
 ·rename_i k n i j;have b:∀ ox oy,(eqGuard op t ox oy (.int k n) (.int i j)).run c.P w = .ok () w:=λ_ _=>by cases op<;>simp[eqGuard]
  split at h
  ·split at h
   ·cases h
   ·rename_i h0;cases h;exact⟨_,by simp only[binOp,Op.shift];rw[if_neg h0];rfl, .int _ _,b⟩
  ·split at h
   ·cases h
   ·rename_i h0;cases h;exact⟨_,by simp only[binOp,Op.shift];rw[if_neg h0];rfl, .int _ _,b⟩
  ·rename_i h1 h2;split at h
   ·rename_i e;subst e;obtain⟨r,d,f⟩:=Gx (P:=c.P) (w:=w) (μ:=μ) (ι:=ι) (t:=t) h ⟨h1,h2⟩;exact⟨r,d,f,b⟩
   ·cases h
 ·obtain⟨r,d,f⟩:=FK (c:=c) (w:=w) (μ:=μ) (ι:=ι) (t:=t) h;exact⟨r,d,f,λ_ _=>by cases op<;>simp[eqGuard]⟩
theorem N3 {op:BinOp}{t z:TypeId}{x y:Operand}(ho:o.op = .binOp op t x y z) (p:Ho μ ι w c e a o) {lo:aR}(d:bA c o=some lo) (i:lo.run e s=some (v,s')) :
 s'=s/\dx μ ι w c.P a o v:=by
 simp only[bA,ho]at d;obtain⟨l,A,d⟩:=bind_some d;obtain⟨m,B,d⟩:=bind_some d;have hx:=p x l (by simp[ho,Op.operands]) A;have q:=p y m (by simp[ho,Op.operands]) B;have key:(lo = .bin op l m)->s'=s/\dx μ ι w c.P a o v:=by
  rintro rfl;simp only[aR.run]at i;obtain⟨v',h1,h2⟩:=bind_some i;cases h2;obtain⟨r,C,D,E⟩:=LC (c:=c) (t:=t) hx q h1;refine⟨rfl,r,?_,D⟩;simp[execOp,ho,E,C]
 have g:∀ h,tE op=false->Ll c.P t=some h->(∀ k,c.P.underlying t≠some (.int k))->c.P.underlying t≠some .string->lo = .eq (II op) h l m->s'=s/\dx μ ι w c.P a o v:=by
  rintro h F f G H rfl;simp only[aR.run]at i;obtain⟨b,h1,h2⟩:=bind_some i;cases h2;have u:op = .eql∨op = .neq:=by cases op<;>simp[tE]at F ⊢
  have:=XY (c:=c) hx q f h1 x y op u G H;refine⟨rfl,_,by simp only[Sem.run_bind]at this;simp only[execOp,ho,Sem.run_bind];rw[this];rfl,?_⟩;rcases u with rfl | rfl<;>exact .bool _
 cases j:c.P.underlying t with
 | none=>
   rw[j]at d;simp only at d;split at d
   ·cases d
   ·rename_i n;obtain⟨h,f,d⟩:=bind_some d;split at d
    ·cases d;cases i
    cases d;exact g h (by simpa using n) f (by simp[j]) (by simp[j]) rfl
 | some I=>
   rw[j]at d;cases I<;>simp only at d
   case int=>cases d;exact key rfl
   case string=>cases d;exact key rfl
   all_goals
    split at d
    ·cases d
    ·rename_i n;obtain⟨h,f,d⟩:=bind_some d;split at d
     ·cases d;cases i
     cases d;exact g h (by simpa using n) f (by simp[j]) (by simp[j]) rfl
theorem Sw {op:UnOp}{t:TypeId}{x:Operand}(ho:o.op = .unOp op t x) (f:Ho μ ι w c e a o) {y:bz}(g:cB c x=some y) (b:(aR.un op y).run e s=some (v,s')):s'=s/\dx μ ι w c.P a o v:=by
 have hx:=f x y (by simp[ho,Op.operands]) g;simp only[aR.run]at b;generalize y.ev e=lv at *;generalize d:a.eval x=h at *;obtain⟨v',h1,h2⟩:=bind_some b;cases h2;cases hx<;>simp only[eH,reduceCtorEq]at h1
 ·cases op<;>simp only[reduceCtorEq]at h1;cases h1;exact⟨rfl,_,by simp only[execOp,ho,d,Op.unary];rfl, .bool _⟩
 ·cases op<;>simp only[reduceCtorEq]at h1;cases h1;exact⟨rfl,_,by simp only[execOp,ho,d,Op.unary,Op.intArith];rfl, .int _ _⟩
end
section
variable {w:World}{w0:Bs}{μ:Mu}{ι:Io}{δ:Nat->Prop}{s s':St}{cmp:Nat->bp->Code->Prop}{c:Ctx}{e:Env}{a:Act}{o:Oper}{v:LV}
theorem BW {t dst:TypeId}{x:Operand}(ho:o.op = .convert t dst x) (f:Ho μ ι w c e a o) {k:IntKind}(g:c.P.underlying dst=some (.int k)) (h:∃ d,c.P.underlying t=some d)
 {y:bz}(i:cB c x=some y) (b:(aR.oA k y).run e s=some (v,s')):s'=s/\dx μ ι w c.P a o v:=by
 have hx:=f x y (by simp[ho,Op.operands]) i;obtain⟨d,j⟩:=h;unfold aR.run at b;dsimp only at b;generalize y.ev e=lv at *;generalize l:a.eval x=m at *;cases hx<;>try (cases b;done)
 cases b;refine⟨rfl,_,by simp only[execOp,ho,l,convert,Sem.run_bind,ru j,ru g,Result.andThen_ok,Conv.intToInt];rfl, .int _ _⟩
theorem zD {t dst:TypeId}{x:Operand}(ho:o.op = .convert t dst x) (f:Ho μ ι w c e a o) (g:c.P.underlying dst=some .string) (h:∃ d,c.P.underlying t=some d)
 {y:bz}(i:cB c x=some y) (b:(aR.ud y).run e s=some (v,s')):s'=s/\dx μ ι w c.P a o v:=by
 have hx:=f x y (by simp[ho,Op.operands]) i;obtain⟨d,j⟩:=h;unfold aR.run at b;dsimp only at b;generalize y.ev e=lv at *;generalize k:a.eval x=l at *;cases hx<;>try (cases b;done)
 cases b;refine⟨rfl,_,by simp only[execOp,ho,k,convert,Sem.run_bind,ru j,ru g,Result.andThen_ok];rfl, .str _⟩
theorem Kn {f:Fn}{xs b:Array Operand}(ho:o.op = .makeFunc f xs b) (g:Ho μ ι w c e a o) {h i:List bz}(hx:xL c xs.toList=some h) (d:xL c b.toList=some i)
 (k:(aR.su f h i).run e s=some (v,s')):s'=s/\dx μ ι w c.P a o v:=by
 cases k;have j:o.op.operands.toList=xs.toList++b.toList:=by rw[ho];simp[Op.operands]
 have h1:=xK (μ:=μ) (ι:=ι) (w:=w) (e:=e) (a:=a) hx (λx y hx d=>g x y (by rw[j];exact List.mem_append_left _ hx) d);have h2:=xK (μ:=μ) (ι:=ι) (w:=w) (e:=e) (a:=a) d (λx y hx d=>g x y (by rw[j];exact List.mem_append_right _ hx) d);refine⟨rfl, .func f (xs.map a.eval) (b.map a.eval),by simp[execOp,ho,Instr.makeFunc],?_⟩;have l:(xs.toList.map a.eval).toArray=xs.map a.eval:=by apply Array.ext';simp
 have m:(b.toList.map a.eval).toArray=b.map a.eval:=by apply Array.ext';simp
 rw[l]at h1;rw[m]at h2;exact .fn h1.1 h2.1 h1.2 h2.2
theorem Gs {st:TypeId}{x:Operand}{f:Nat}(ho:o.op = .fieldAddr st x f) (k:Ho μ ι w c e a o) {fs:Array Field}(d:c.P.underlying st=some (.struct fs)) {fl:Field}(g:fs[f]? = some fl)
 {n:Nat}(i:gG c.P fl.type=some n) (h0:n≠0) {y:bz}(l:cB c x=some y) (b:(aR.rQ fl.offset y).run e s=some (v,s')):s'=s/\dx μ ι w c.P a o v:=by
 have hx:=k x y (by simp[ho,Op.operands]) l;unfold aR.run at b;dsimp only at b;generalize y.ev e=lv at *;generalize j:a.eval x=t at *;cases hx<;>try (cases b;done)
 case aX vs m p q h=>
  cases b;refine⟨rfl,_,by simp only[execOp,ho,j,Instr.fieldAt,Sem.run_bind,ru d,Result.andThen_ok,g,Instr.sureAddr,Sem.run_pure,fieldPlace,wj i,h0,if_false,jl];rfl,?_⟩;rw[Nat.add_assoc];exact .aX vs m p q h
 case aH r=>
  cases b;refine⟨rfl,_,by simp only[execOp,ho,j,Instr.fieldAt,Sem.run_bind,ru d,Result.andThen_ok,g,Instr.sureAddr,Sem.run_pure,fieldPlace,wj i,h0,if_false,jl];rfl,?_⟩;rw[Nat.add_assoc];exact .aH r
theorem Gq {st:TypeId}{x:Operand}{f:Nat}(ho:o.op = .field st x f) (d:Ho μ ι w c e a o) {fs:Array Field}(g:c.P.underlying st=some (.struct fs)) {fl:Field}(i:fs[f]? = some fl)
 {n:Option Nat}(j:nO c.P fl.type=some n) {y:bz}(k:cB c x=some y) (b:(aR.field fl.offset n y).run e s=some (v,s')):s'=s/\dx μ ι w c.P a o v:=by
 have hx:=d x y (by simp[ho,Op.operands]) k;unfold aR.run at b;dsimp only at b;generalize y.ev e=lv at *;generalize l:a.eval x=q at *;cases hx<;>try (cases b;done)
 case agg hl h=>
  obtain⟨v',h1,h2⟩:=bind_some b;cases h2;obtain⟨u,m,p⟩:=DH (w:=w) j hl h h1;exact⟨rfl,u,by simp[execOp,ho,l,Instr.field,ru g,i,asAgg,m],p⟩
theorem Gm {t:TypeId}{x i:Operand}(ho:o.op = .indexAddr t x i) (l:Ho μ ι w c e a o) {m:TypeId}(q:c.P.underlying t=some (.slice m)) {n:Nat}(r:gG c.P m=some n)
 {y d:bz}(D:cB c x=some y) (E:cB c i=some d) (b:(aR.vI n y d).run e s=some (v,s')):s'=s/\dx μ ι w c.P a o v:=by
 have hx:=l x y (by simp[ho,Op.operands]) D;have u:=l i d (by simp[ho,Op.operands]) E;unfold aR.run at b;dsimp only at b;generalize y.ev e=lv at *;generalize d.ev e=L at *;generalize A:a.eval x=M at *;generalize B:a.eval i=N at *;cases hx<;>try (cases b;done)
 case aB vs F G H h I=>
  obtain⟨k,h1,h2⟩:=bind_some b;cases h2;obtain⟨kd,z,rfl,f,g,j,rfl⟩:=kS (P:=c.P) (w:=w) u h1;refine⟨rfl,_,by simp only[execOp,ho,A,B,Instr.indexAt,Sem.run_bind,f,ru q,Result.andThen_ok,Sem.run_pure,Sem.run_ite,g,j,and_self,if_true,wj r,jl];rfl,?_⟩;exact .aX vs F G H h
 case aD id off len O cap p C J Q I K=>
  obtain⟨k,h1,h2⟩:=bind_some b;split at h2
  ·cases h2;obtain⟨kd,z,rfl,f,g,j,rfl⟩:=kS (P:=c.P) (w:=w) u h1;refine⟨rfl,_,by simp only[execOp,ho,A,B,Instr.indexAt,Sem.run_bind,f,ru q,Result.andThen_ok,Sem.run_pure,Sem.run_ite,g,j,and_self,if_true,wj r,jl];rfl,?_⟩;rw[K om,Nat.add_assoc];exact .aH J
  ·cases h2
theorem zC {t:TypeId}{x i:Operand}(ho:o.op = .indexAddr t x i) (l:Ho μ ι w c e a o) {m:TypeId}{len:Nat}(p:c.P.underlying t=some (.array len m)) {n:Nat}(q:gG c.P m=some n)
 {y d:bz}(B:cB c x=some y) (C:cB c i=some d) (b:(aR.tI n len y d).run e s=some (v,s')):s'=s/\dx μ ι w c.P a o v:=by
 have hx:=l x y (by simp[ho,Op.operands]) B;have r:=l i d (by simp[ho,Op.operands]) C;unfold aR.run at b;dsimp only at b;generalize y.ev e=lv at *;generalize d.ev e=H at *;generalize u:a.eval x=I at *;generalize A:a.eval i=J at *;cases hx<;>try (cases b;done)
 case aX vs D E F h=>
  obtain⟨k,h1,h2⟩:=bind_some b;cases h2;obtain⟨kd,z,rfl,f,g,j,rfl⟩:=kS (P:=c.P) (w:=w) r h1;refine⟨rfl,_,by simp only[execOp,ho,u,A,Instr.indexAt,Instr.sureAddr,Sem.run_bind,f,ru p,Result.andThen_ok,Sem.run_pure,Sem.run_ite,g,j,and_self,if_true,wj q,jl];rfl,?_⟩;rw[Nat.add_assoc];exact .aX vs D E F h
 case aH G=>
  obtain⟨k,h1,h2⟩:=bind_some b;cases h2;obtain⟨kd,z,rfl,f,g,j,rfl⟩:=kS (P:=c.P) (w:=w) r h1;refine⟨rfl,_,by simp only[execOp,ho,u,A,Instr.indexAt,Instr.sureAddr,Sem.run_bind,f,ru p,Result.andThen_ok,Sem.run_pure,Sem.run_ite,g,j,and_self,if_true,wj q,jl];rfl,?_⟩;rw[Nat.add_assoc];exact .aH G
theorem zB {t:TypeId}{x i:Operand}(ho:o.op = .index t x i) (j:Ho μ ι w c e a o) {f:TypeId}{len:Nat}(m:c.P.underlying t=some (.array len f)) {n:Nat}(p:gG c.P f=some n)
 {l:Option Nat}(g:nO c.P f=some l) {y b:bz}(q:cB c x=some y) (r:cB c i=some b) (d:(aR.tG n len l y b).run e s=some (v,s')):s'=s/\dx μ ι w c.P a o v:=by
 have hx:=j x y (by simp[ho,Op.operands]) q;have A:=j i b (by simp[ho,Op.operands]) r;unfold aR.run at d;dsimp only at d;generalize y.ev e=lv at *;generalize b.ev e=J at *;generalize B:a.eval x=K at *;generalize C:a.eval i=L at *;cases hx<;>try (cases d;done)
 case agg hl h=>
  obtain⟨k,h1,h2⟩:=bind_some d;obtain⟨v',h3,D⟩:=bind_some h2;cases D;obtain⟨kd,z,rfl,E,F,G,rfl⟩:=kS (P:=c.P) (w:=w) A h1;obtain⟨u,H,I⟩:=DH (w:=w) g hl h h3;refine⟨rfl,u,?_,I⟩;simp only[execOp,ho,B,C,Instr.index,Sem.run_bind,E,ru m,Result.andThen_ok,Sem.run_ite,F,G,and_self,if_true,wj p,H];rfl
theorem zA {t:TypeId}{x i:Operand}(ho:o.op = .index t x i) (g:Ho μ ι w c e a o) (j:c.P.underlying t=some .string)
 {y d:bz}(l:cB c x=some y) (m:cB c i=some d) (f:(aR.pU y d).run e s=some (v,s')):s'=s/\dx μ ι w c.P a o v:=by
 have hx:=g x y (by simp[ho,Op.operands]) l;have n:=g i d (by simp[ho,Op.operands]) m;unfold aR.run at f;dsimp only at f;generalize y.ev e=lv at *;generalize d.ev e=B at *;generalize p:a.eval x=C at *;generalize q:a.eval i=D at *;cases hx<;>try (cases f;done)
 case str b=>
  obtain⟨k,h1,h2⟩:=bind_some f;cases h2;obtain⟨kd,z,rfl,r,u,E,rfl⟩:=kS (P:=c.P) (w:=w) n h1;have h:z.toNat<b.size:=by omega
  have A:b[z.toNat]? = some (b.data.getD z.toNat 0):=by
   rw[show b[z.toNat]? = some b[z.toNat] from by simp[h]];congr 1;have:z.toNat<b.data.size:=h;simp only[gF,this,getElem?_pos,Option.getD_some];rfl
  refine⟨rfl, .int .u8 (b.data.getD z.toNat 0).toNat,?_, .int _ _⟩;simp only[execOp,ho,p,q,Instr.index,Sem.run_bind,r,ru j,Result.andThen_ok,u,if_true,A];rfl
theorem N2 {x:Operand}{i:Nat}(ho:o.op = .extract x i) (g:Ho μ ι w c e a o) {y:bz}(j:cB c x=some y) (b:(aR.ext y i).run e s=some (v,s')):s'=s/\dx μ ι w c.P a o v:=by
 have hx:=g x y (by simp[ho,Op.operands]) j;unfold aR.run at b;dsimp only at b;generalize y.ev e=lv at *;generalize k:a.eval x=l at *;cases hx<;>try (cases b;done)
 case cy cs vs hl h=>
  obtain⟨v',h1,h2⟩:=bind_some b;cases h2;obtain⟨d,rfl⟩:=List.getElem?_eq_some_iff.1 h1;have f:i<vs.size:=by rw[hl];exact d
  have:=h i d;refine⟨rfl,vs[i],by simp[execOp,ho,k,Instr.extract,f],?_⟩;simpa[gD,gF,d,f] using this
theorem dX {d max:Nat}{lo:Option Operand}{b:Option bz}{k:Nat}(f:qY c lo=some b) (i:∀ x y,lo=some x->cB c x=some y->Rv μ ι w (y.ev e) (a.eval x))
 (h:fM d max (b.map (·.ev e))=some k):(lo=none/\k=d)∨(∃ x kd z,lo=some x/\a.eval x = .int kd z/\0<=z/\z<=max/\k=z.toNat):=by
 cases lo with
 | none=>cases f;cases h;exact .inl ⟨rfl,rfl⟩
 | some x=>
   obtain⟨y,j,rfl⟩:=cP f;have hx:=i x y rfl j;simp only[Option.map_some]at h;generalize y.ev e=lv at *;generalize l:a.eval x=m at *;cases hx<;>simp only[fM,reduceCtorEq]at h;split at h
   ·rename_i g;cases h;exact .inr ⟨x,_,_,rfl,l,g.1,g.2,rfl⟩
   ·cases h
theorem dW {Wo:Bool}{len cap:Nat}{lo hi:Option Operand}{h l:Nat}
 (k:(hi=none/\h=len)∨(∃ x kd z,hi=some x/\a.eval x = .int kd z/\0<=z/\z<=len/\h=z.toNat)) (p:len<=cap)
 (hl:(lo=none/\l=0)∨(∃ x kd z,lo=some x/\a.eval x = .int kd z/\0<=z/\z<=h/\l=z.toNat)) :
 (Instr.sliceBounds Wo len cap (lo.map a.eval) (hi.map a.eval) none).run c.P w = .ok (l,h,cap) w/\l<=h/\h<=len:=by
 have f:∀ z:Int,z<=len->z<=cap:=λz q=>by omega
 rcases k with⟨rfl,rfl⟩ | ⟨x,kd,z,rfl,hx,g,i,rfl⟩<;>rcases hl with⟨rfl,rfl⟩ | ⟨r,m,n,rfl,j,b,d,rfl⟩
 ·simp[Instr.sliceBounds]
 ·refine⟨?_,by omega,by omega⟩;simp[Instr.sliceBounds,Instr.sliceBound,j,asIntOf,b,d]
 ·refine⟨?_,by omega,by omega⟩;simp[Instr.sliceBounds,Instr.sliceBound,hx,asIntOf,g,f z i]
 ·refine⟨?_,by omega,by omega⟩;have h1:n<=max z 0:=by omega
  simp[Instr.sliceBounds,Instr.sliceBound,hx,j,asIntOf,g,f z i,b,h1]
end
section
variable {w:World}{w0:Bs}{μ:Mu}{ι:Io}{δ:Nat->Prop}{s s':St}{cmp:Nat->bp->Code->Prop}{c:Ctx}{e:Env}{a:Act}{o:Oper}{v:LV}
theorem Gk {t:TypeId}{x:Operand}{lo hi:Option Operand}(ho:o.op = .slice t x lo hi none) (K:Ho μ ι w c e a o) {N:TypeId}(A:c.P.underlying t=some (.slice N)) {n:Nat}(B:gG c.P N=some n)
 {y:bz}{O Q:Option bz}(u:cB c x=some y) (C:qY c lo=some O) (D:qY c hi=some Q) (d:(aR.slice n y O Q).run e s=some (v,s')):s'=s/\dx μ ι w c.P a o v:=by
 have hx:=K x y (by simp[ho,Op.operands]) u;have E:∀ x y,lo=some x->cB c x=some y->Rv μ ι w (y.ev e) (a.eval x):=λx y h u=>K x y (by subst h;simp[ho,Op.operands]) u;have F:∀ x y,hi=some x->cB c x=some y->Rv μ ι w (y.ev e) (a.eval x):=λx y h u=>K x y (by subst h;simp[ho,Op.operands]) u;unfold aR.run at d;dsimp only at d;generalize y.ev e=lv at *;generalize G:a.eval x=Z at *;have IP:=hx;cases hx<;>try (cases d;done)
 case aj=>
  obtain⟨h,h1,d⟩:=bind_some d;obtain⟨l,h2,d⟩:=bind_some d;split at d
  ·rename_i h0;cases d;have k:=dX (μ:=μ) (ι:=ι) (w:=w) D F h1;have m:=dX (μ:=μ) (ι:=ι) (w:=w) C E h2;obtain⟨q,H,z⟩:=dW (c:=c) (w:=w) (Wo:=true) (cap:=0) k (Nat.le_refl _) m;obtain⟨rfl,rfl⟩:=h0;refine⟨rfl,_,by simp only[execOp,ho,G,Instr.sliceAt,Instr.slice,Sem.run_bind,ru A,Result.andThen_ok,Option.map_none,q,wj B];rfl,?_⟩;simp only[Nat.sub_zero,if_true];exact .aj
  ·cases d
 case zs=>
  obtain⟨h,h1,d⟩:=bind_some d;obtain⟨l,h2,d⟩:=bind_some d;split at d
  ·rename_i h0;cases d;have k:=dX (μ:=μ) (ι:=ι) (w:=w) D F h1;have m:=dX (μ:=μ) (ι:=ι) (w:=w) C E h2;obtain⟨q,H,z⟩:=dW (c:=c) (w:=w) (Wo:=true) (cap:=0) k (Nat.le_refl _) m;obtain⟨rfl,rfl⟩:=h0;refine⟨rfl,_,by simp only[execOp,ho,G,Instr.sliceAt,Instr.slice,Sem.run_bind,ru A,Result.andThen_ok,Option.map_none,q,wj B];rfl,?_⟩;simp only[Nat.sub_zero,if_true];exact .zs _
  ·cases d
 case aB cs len b off cap vs I U V h L=>
  obtain⟨j,h1,d⟩:=bind_some d;obtain⟨f,h2,d⟩:=bind_some d;split at d
  ·rename_i cx;cases d;have k:=dX (μ:=μ) (ι:=ι) (w:=w) D F h1;have m:=dX (μ:=μ) (ι:=ι) (w:=w) C E h2;obtain⟨q,H,z⟩:=dW (c:=c) (w:=w) (Wo:=true) (cap:=cap) k L m;refine⟨rfl,_,by simp only[execOp,ho,G,Instr.sliceAt,Instr.slice,Sem.run_bind,ru A,Result.andThen_ok,Option.map_none,q,wj B];rfl,?_⟩;have g:((cs.drop (f*n)).take ((j - f)*n)).length=(j - f)*n:=by
    have:j*n<=len*n:=Nat.mul_le_mul_right n z;have h3:(j - f)*n=j*n - f*n:=Nat.sub_mul j f n;simp;omega
   have J:∀ i,i<(j - f)*n->f*n+i<cs.length:=λi hi=>by
    have:j*n<=len*n:=Nat.mul_le_mul_right n z;have h3:(j - f)*n=j*n - f*n:=Nat.sub_mul j f n;have h4:f*n<=j*n:=Nat.mul_le_mul_right n H;omega
   by_cases M:cap=f
   ·rw[if_pos M];have h0:j - f=0:=by omega
    rw[h0]at g ⊢;exact .aB (λ_=>undef) (λi hi=>by rw[g]at hi;omega) (λi hi=>by rw[g]at hi;omega) (λi hi=>by rw[g]at hi;omega) (λi hi=>by rw[g]at hi;omega) (Nat.zero_le _)
   ·rw[if_neg M];simp only[Option.map_some,jl];refine .aB (λi=>vs (f*n+i)) (λi hi=>?_) (λi hi=>?_) (λi hi=>?_) (λi hi=>?_) om<;>rw[g]at hi
    ·rw[Nat.add_assoc];exact I _ (J i hi)
    ·rw[Nat.add_assoc];exact U _ (J i hi)
    ·exact V _ (J i hi)
    ·rw[dK _ _ _ _ hi];exact h _ (J i hi)
  ·cases d
 case aD id off len r cap p R T M L X=>
  obtain⟨j,h1,d⟩:=bind_some d;obtain⟨f,h2,d⟩:=bind_some d;split at d
  ·rename_i Y;subst Y;cases d;have k:=dX (μ:=μ) (ι:=ι) (w:=w) D F h1;have m:=dX (μ:=μ) (ι:=ι) (w:=w) C E h2;obtain⟨q,H,z⟩:=dW (c:=c) (w:=w) (Wo:=true) (cap:=cap) k L m;have hm:(cap - f)*r=cap*r - f*r:=Nat.sub_mul cap f r;have sO:f*r<=cap*r:=Nat.mul_le_mul_right r om;refine⟨rfl,_,by simp only[execOp,ho,G,Instr.sliceAt,Instr.slice,Sem.run_bind,ru A,Result.andThen_ok,Option.map_none,q,wj B];rfl,?_⟩;by_cases I:cap=f
   ·rw[if_pos I];exact .aD T om om (λh=>absurd om h)
   ·rw[if_neg I];simp only[Option.map_some,jl];rw[Nat.add_assoc];exact .aD T om om (λ_=>by rw[X om])
  ·cases d
theorem zy {t:TypeId}{x:Operand}{lo hi:Option Operand}(ho:o.op = .slice t x lo hi none) (g:Ho μ ι w c e a o) (k:c.P.underlying t=some .string)
 {y:bz}{i j:Option bz}(f:cB c x=some y) (m:qY c lo=some i) (n:qY c hi=some j) (d:(aR.pI y i j).run e s=some (v,s')):s'=s/\dx μ ι w c.P a o v:=by
 have hx:=g x y (by simp[ho,Op.operands]) f;have p:∀ x y,lo=some x->cB c x=some y->Rv μ ι w (y.ev e) (a.eval x):=λx y h f=>g x y (by subst h;simp[ho,Op.operands]) f;have q:∀ x y,hi=some x->cB c x=some y->Rv μ ι w (y.ev e) (a.eval x):=λx y h f=>g x y (by subst h;simp[ho,Op.operands]) f;unfold aR.run at d;dsimp only at d;generalize y.ev e=lv at *;generalize r:a.eval x=B at *;cases hx<;>try (cases d;done)
 case str b=>
  obtain⟨h,h1,d⟩:=bind_some d;obtain⟨l,h2,d⟩:=bind_some d;cases d;have u:=dX (μ:=μ) (ι:=ι) (w:=w) n q h1;have z:=dX (μ:=μ) (ι:=ι) (w:=w) m p h2;obtain⟨A,C,D⟩:=dW (c:=c) (w:=w) (Wo:=false) (cap:=b.size) u (Nat.le_refl _) z;exact⟨rfl,_,by simp only[execOp,ho,r,Instr.sliceAt,Instr.slice,Sem.run_bind,ru k,Result.andThen_ok,Option.map_none,Option.isSome_none,Bool.false_eq_true,if_false,Sem.run_pure,A], .str _⟩
theorem zz {cmp:Nat->bp->Code->Prop}{w0:Bs}{δ:Nat->Prop}{t:TypeId}{x:Operand}{lo hi:Option Operand}(ho:o.op = .slice t x lo hi none) (I:Inv cmp w0 μ ι δ s w) (i:Ho μ ι w c e a o) {k:TypeId}{n:Nat}(r:c.P.underlying t=some (.array n k)) {d:Nat}(u:gG c.P k=some d)
 {y:bz}{l m:Option bz}(f:cB c x=some y) (z:qY c lo=some l) (A:qY c hi=some m) (b:(aR.ni d n y l m).run e s=some (v,s')):s'=s/\dx μ ι w c.P a o v:=by
 have hx:=i x y (by simp[ho,Op.operands]) f;have B:∀ x y,lo=some x->cB c x=some y->Rv μ ι w (y.ev e) (a.eval x):=λx y h f=>i x y (by subst h;simp[ho,Op.operands]) f;have C:∀ x y,hi=some x->cB c x=some y->Rv μ ι w (y.ev e) (a.eval x):=λx y h f=>i x y (by subst h;simp[ho,Op.operands]) f;unfold aR.run at b;dsimp only at b;generalize y.ev e=lv at *;generalize D:a.eval x=J at *;cases hx<;>try (cases b;done)
 case aH id off p j=>
  obtain⟨K,h1,b⟩:=bind_some b;obtain⟨g,h2,b⟩:=bind_some b;split at b
  ·rename_i cs E;split at b
   ·rename_i L;cases b;have F:=dX (μ:=μ) (ι:=ι) (w:=w) A C h1;have G:=dX (μ:=μ) (ι:=ι) (w:=w) z B h2;obtain⟨H,M,N⟩:=dW (c:=c) (w:=w) (Wo:=false) (cap:=n) F (Nat.le_refl _) G;obtain⟨_,O,_⟩:=I.dD id _ p E j;have hm:(n - g)*d=n*d - g*d:=Nat.sub_mul n g d;have Q:g*d<=n*d:=Nat.mul_le_mul_right d om;refine⟨rfl,_,by simp only[execOp,ho,D,Instr.sliceAt,Instr.sureAddr,Sem.run_bind,ru r,Result.andThen_ok,Option.map_none,Sem.run_pure,H,wj u];rfl,?_⟩;by_cases q:n=g
    ·rw[if_pos q];exact .aD j om om (λh=>absurd om h)
    ·rw[if_neg q];simp only[jl];rw[Nat.add_assoc];exact .aD j om om (λ_=>rfl)
   ·cases b
  ·cases b
theorem Gl {t:TypeId}{x:Operand}(ho:o.op = .call { callee:=.builtin .len,args:=#[x],argTypes:=#[t] }) (f:Ho μ ι w c e a o) {g:TypeId}(h:c.P.underlying t=some (.slice g))
 {y:bz}(i:cB c x=some y) (d:(aR.xY y).run e s=some (v,s')):s'=s/\dx μ ι w c.P a o v:=by
 have hx:=f x y (by simp[ho,Op.operands,Call.operands]) i;unfold aR.run at d;dsimp only at d;generalize y.ev e=lv at *;generalize j:a.eval x=l at *;obtain⟨n,h1,d⟩:=bind_some d;cases d;have h2:∃ b k,l = .slice b n k:=by
  cases hx<;>simp only[fm,reduceCtorEq]at h1<;>cases h1<;>exact⟨_,_,rfl⟩
 obtain⟨b,k,rfl⟩:=h2;exact⟨rfl,_,by simp only[execOp,ho,resolve,Sem.run_bind,Sem.run_pure,Result.andThen_ok,invoke,builtin,List.map_toArray,List.map_cons,List.map_nil,j];simp[Builtin.len_,ru h];rfl, .int _ _⟩
theorem DY {t:TypeId}{x:Operand}(ho:o.op = .call { callee:=.builtin .len,args:=#[x],argTypes:=#[t] }) (d:Ho μ ι w c e a o) (f:c.P.underlying t=some .string)
 {y:bz}(g:cB c x=some y) (b:(aR.xX y).run e s=some (v,s')):s'=s/\dx μ ι w c.P a o v:=by
 have hx:=d x y (by simp[ho,Op.operands,Call.operands]) g;unfold aR.run at b;dsimp only at b;generalize y.ev e=lv at *;generalize h:a.eval x=i at *;cases hx<;>try (cases b;done)
 cases b;exact⟨rfl,_,by simp only[execOp,ho,resolve,Sem.run_bind,Sem.run_pure,Result.andThen_ok,invoke,builtin,List.map_toArray,List.map_cons,List.map_nil,h];simp[Builtin.len_,ru f];rfl, .int _ _⟩
theorem D0 {t:TypeId}{x:Operand}(ho:o.op = .call { callee:=.builtin .len,args:=#[x],argTypes:=#[t] }) {n:Nat}{b:TypeId}(d:c.P.underlying t=some (.array n b))
 (f:(aR.BY n).run e s=some (v,s')):s'=s/\dx μ ι w c.P a o v:=by
 cases f;refine⟨rfl,_,by simp only[execOp,ho,resolve,Sem.run_bind,Sem.run_pure,Result.andThen_ok,invoke,builtin,List.map_toArray,List.map_cons,List.map_nil];simp[Builtin.len_,ru d];rfl, .int _ _⟩
theorem Kf (isMax:Bool) (k:IntKind):∀ (ls:List LV) (vs:List Value) (x r:Int),vs.length=ls.length->(∀ i,i<ls.length->Rv μ ι w (ls.getD i .top) (vs.getD i undef))->eR.go isMax k x ls=some r ->
 (vs.foldlM (if isMax then Builtin.max2 else Builtin.min2) (.int k x)).run c.P w = .ok (.int k r) w:=by
 intro ls;induction ls with
 | nil=>intro vs x r hl _ h;simp at hl;subst hl;simp[eR.go]at h;subst h;rfl
 | cons l ls ih=>
   intro vs x r hl b h;cases vs with
   | nil=>simp at hl
   | cons u vs=>
     have h0:Rv μ ι w l u:=by simpa using b 0 (by simp)
     cases h0<;>simp only[eR.go,reduceCtorEq]at h;split at h
     ·rename_i e;subst e;have:=ih vs _ r (by simpa using hl) (λi d=>by simpa using b (i+1) (by simpa using d)) h;cases isMax
      ·simp only[Bool.false_eq_true,if_false]at this ⊢;simp only[List.foldlM_cons,Sem.run_bind,Builtin.min2,Sem.run_pure,Result.andThen_ok];exact this
      ·simp only[if_true]at this ⊢;simp only[List.foldlM_cons,Sem.run_bind,Builtin.max2,Sem.run_pure,Result.andThen_ok];exact this
     ·cases h
theorem vE {b:Builtin}{x:Operand}{xs:List Operand}{q:Array TypeId}{as:Array Operand}(has:as.toList=x::xs) (t:b = .min∨b = .max) (ho:o.op = .call { callee:=.builtin b,args:=as,argTypes:=q })
 (u:Ho μ ι w c e a o) {f:List bz}(l:xL c (x::xs)=some f) (h:(aR.mJ (match b with | .max=>true | _=>false) f).run e s=some (v,s')):s'=s/\dx μ ι w c.P a o v:=by
 unfold aR.run at h;dsimp only at h;obtain⟨v',h1,h⟩:=bind_some h;cases h;have z:o.op.operands.toList=x::xs:=by rw[ho];simp[Op.operands,Call.operands,has]
 obtain⟨hl,d⟩:=xK (μ:=μ) (ι:=ι) (w:=w) (e:=e) (a:=a) l (λx y hx l=>u x y (by rw[z];exact hx) l);cases f with
 | nil=>simp[eR]at h1
 | cons y f=>
   have h0:Rv μ ι w (y.ev e) (a.eval x):=by simpa using d 0 (by simp)
   simp only[List.map_cons]at h1;generalize y.ev e=C at *;generalize m:a.eval x=D at *;cases h0<;>simp only[eR,reduceCtorEq]at h1;rename_i k n;obtain⟨r,h2,rfl⟩:=cP h1;have A:(xs.map a.eval).length=(f.map (·.ev e)).length:=by simpa using hl
   have g:∀ i,i<(f.map (·.ev e)).length->Rv μ ι w ((f.map (·.ev e)).getD i .top) ((xs.map a.eval).getD i undef):=λi B=>by
    have:=d (i+1) (by simpa using B);simpa[gF,gD] using this
   have j:=Kf (c:=c) (w:=w) _ k _ _ n r A g h2;have p:(as.map a.eval).toList = .int k n::xs.map a.eval:=by simp[has,m]
   refine⟨rfl, .int k r,?_, .int _ _⟩;rcases t with rfl | rfl
   ·simp only[Bool.false_eq_true,if_false]at j;simp only[execOp,ho,resolve,Sem.run_bind,Sem.run_pure,Result.andThen_ok,invoke,builtin,Builtin.min_,p];rw[j];rfl
   ·simp only[if_true]at j;simp only[execOp,ho,resolve,Sem.run_bind,Sem.run_pure,Result.andThen_ok,invoke,builtin,Builtin.max_,p];rw[j];rfl
theorem Gj {lo:aR}(hl:Op.looks o.op=true) (g:bA c o=some lo) (r:Ho μ ι w c e a o) (I:Inv cmp w0 μ ι δ s w) (F:B4 lo=false) (q:lo.run e s=some (v,s')) :
 s'=s/\dx μ ι w c.P a o v:=by
 cases ho:o.op<;>rw[ho]at hl<;>simp only[Op.looks,Bool.false_eq_true]at hl
 case move x=>simp only[bA,ho]at g;obtain⟨y,j,rfl⟩:=cP g;exact AQ (.inl ho) r j q
 case assign x=>simp only[bA,ho]at g;obtain⟨y,j,rfl⟩:=cP g;exact AQ (.inr ho) r j q
 case pick k x y=>
  simp only[bA,ho]at g;obtain⟨U,Q,g⟩:=bind_some g;obtain⟨V,hx,g⟩:=bind_some g;obtain⟨X,j,g⟩:=bind_some g;cases g;exact Km ho r Q hx j q
 case build t ps=>exact Gt ho r g q
 case load t x=>
  simp only[bA,ho]at g;obtain⟨n,u,g⟩:=bind_some g;obtain⟨y,j,g⟩:=bind_some g;cases g;exact Ko I ho r u j q
 case nilCheck x=>simp only[bA,ho]at g;obtain⟨y,j,g⟩:=bind_some g;cases g;exact DU ho r j q
 case binOp op t x y Y=>exact N3 ho r g q
 case unOp op t x=>simp only[bA,ho]at g;obtain⟨y,j,g⟩:=bind_some g;cases g;exact Sw ho r j q
 case convert t d x=>
  simp only[bA,ho]at g;cases p:c.P.underlying d with
  | none=>simp[p]at g
  | some z=>
    rw[p]at g;cases z<;>simp only[reduceCtorEq]at g
    case int k=>obtain⟨⟨⟩,G,g⟩:=bind_some g;obtain⟨y,j,g⟩:=bind_some g;cases g;exact BW ho r p (by unfold IC at G;split at G;exact⟨_,by assumption⟩;cases G) j q
    case string=>
     split at g
     ·split at g
      ·obtain⟨y,j,g⟩:=cP g;subst g;cases F
      ·cases g
     ·rename_i Z wA E;obtain⟨y,j,g⟩:=cP g;subst g;exact zD ho r p ⟨_,E⟩ j q
     ·cases g
 case makeFunc f xs L=>
  cases f<;>simp only[bA,ho,reduceCtorEq]at g;obtain⟨lx,hx,g⟩:=bind_some g;obtain⟨ly,j,g⟩:=bind_some g;cases g;exact Kn ho r hx j q
 case slice t x l h m=>
  cases m with
  | some mx=>
    exfalso;cases l<;>cases h<;>simp only[bA,ho,reduceCtorEq]at g;split at g
    ·obtain⟨_,_,g⟩:=bind_some g;obtain⟨_,_,g⟩:=bind_some g;obtain⟨_,_,g⟩:=bind_some g;obtain⟨_,_,g⟩:=bind_some g;obtain⟨_,_,g⟩:=bind_some g;cases g;cases F
    ·cases g
  | none=>
  simp only[bA,ho]at g;cases p:c.P.underlying t with
  | none=>simp[p]at g
  | some z=>
    rw[p]at g;cases z<;>simp only[reduceCtorEq]at g
    case slice C=>
     obtain⟨n,u,g⟩:=bind_some g;obtain⟨y,j,g⟩:=bind_some g;obtain⟨M,D,g⟩:=bind_some g;obtain⟨N,A,g⟩:=bind_some g;cases g;exact Gk ho r p u j D A q
    case string=>
     obtain⟨y,j,g⟩:=bind_some g;obtain⟨M,D,g⟩:=bind_some g;obtain⟨N,A,g⟩:=bind_some g;cases g;exact zy ho r p j D A q
    case array n C=>
     obtain⟨sz,u,g⟩:=bind_some g;obtain⟨y,j,g⟩:=bind_some g;obtain⟨M,D,g⟩:=bind_some g;obtain⟨N,A,g⟩:=bind_some g;cases g;exact zz ho I r p u j D A q
 case fieldAddr st x f=>
  simp only[bA,ho]at g;cases p:c.P.underlying st with
  | none=>simp[p]at g
  | some z=>
    rw[p]at g;cases z<;>simp only[reduceCtorEq]at g;obtain⟨fl,H,g⟩:=bind_some g;obtain⟨n,u,g⟩:=bind_some g;split at g
    ·cases g
    ·rename_i h0;obtain⟨y,j,g⟩:=bind_some g;cases g;exact Gs ho r p H u h0 j q
 case field t x f=>
  simp only[bA,ho]at g;cases p:c.P.underlying t with
  | none=>simp[p]at g
  | some z=>
    rw[p]at g;cases z<;>simp only[reduceCtorEq]at g;obtain⟨fl,H,g⟩:=bind_some g;obtain⟨n,u,g⟩:=bind_some g;obtain⟨y,j,g⟩:=bind_some g;cases g;exact Gq ho r p H u j q
 case indexAddr t x i=>
  simp only[bA,ho]at g;cases p:c.P.underlying t with
  | none=>simp[p]at g
  | some z=>
    rw[p]at g;cases z<;>simp only[reduceCtorEq]at g
    case slice C=>obtain⟨n,u,g⟩:=bind_some g;obtain⟨y,j,g⟩:=bind_some g;obtain⟨J,B,g⟩:=bind_some g;cases g;exact Gm ho r p u j B q
    case array len C=>obtain⟨n,u,g⟩:=bind_some g;obtain⟨y,j,g⟩:=bind_some g;obtain⟨J,B,g⟩:=bind_some g;cases g;exact zC ho r p u j B q
 case index t x i=>
  simp only[bA,ho]at g;cases p:c.P.underlying t with
  | none=>simp[p]at g
  | some z=>
    rw[p]at g;cases z<;>simp only[reduceCtorEq]at g
    case array len C=>
     obtain⟨n,u,g⟩:=bind_some g;obtain⟨ag,K,g⟩:=bind_some g;obtain⟨y,j,g⟩:=bind_some g;obtain⟨J,B,g⟩:=bind_some g;cases g;exact zB ho r p u K j B q
    case string=>obtain⟨y,j,g⟩:=bind_some g;obtain⟨J,B,g⟩:=bind_some g;cases g;exact zA ho r p j B q
 case extract x i=>simp only[bA,ho]at g;obtain⟨y,j,g⟩:=bind_some g;cases g;exact N2 ho r j q
 case call R=>
  obtain⟨T,as,O⟩:=R;cases T<;>try (cases hl;done)
  rename_i b;cases b<;>simp only[Bool.false_eq_true]at hl
  case len=>
   simp only[bA,ho,eg]at g;rcases has:as.toList with _ | ⟨x,_ | ⟨x2,xs⟩⟩<;>rcases E:O.toList with _ | ⟨t,_ | ⟨t2,tl⟩⟩<;>rw[has,E]at g<;>try (cases g;done)
   have h1:as = #[x]:=by apply Array.ext';simpa using has
   have h2:O = #[t]:=by apply Array.ext';simpa using E
   subst h1;subst h2;simp only[qD]at g;cases p:c.P.underlying t with
   | none=>simp[p]at g
   | some z=>
     rw[p]at g;cases z<;>simp only[reduceCtorEq]at g
     case slice C=>obtain⟨y,j,g⟩:=bind_some g;cases g;exact Gl ho r p j q
     case string=>obtain⟨y,j,g⟩:=bind_some g;cases g;exact DY ho r p j q
     case array n C=>cases g;exact D0 ho p q
     case map=>obtain⟨y,j,g⟩:=bind_some g;cases g;cases F
  case max=>
   simp only[bA,ho,eg]at g;rcases has:as.toList with _ | ⟨x,xs⟩<;>rw[has]at g<;>try (cases g;done)
   simp only at g;obtain⟨L,j,g⟩:=bind_some g;cases g;exact vE has (.inr rfl) ho r j q
  case min=>
   simp only[bA,ho,eg]at g;rcases has:as.toList with _ | ⟨x,xs⟩<;>rw[has]at g<;>try (cases g;done)
   simp only at g;obtain⟨L,j,g⟩:=bind_some g;cases g;exact vE has (.inl rfl) ho r j q
end
end Go.Pv
end
