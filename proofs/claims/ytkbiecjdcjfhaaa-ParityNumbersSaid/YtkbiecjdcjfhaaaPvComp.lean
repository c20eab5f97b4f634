/- From the machine's code to its plain form: types looked up once and for all. -/
import Derived.Test.YtkbiecjdcjfhaaaPvCore
import Derived.Orders
import Derived.Laws.Entries
import Derived.ChangeKeysEq
import Derived.LaidEql
import Derived.WalkSpells
import Derived.Laws.StructEq
section
namespace Go.Pv
open Go
structure Ctx where
 P:Program
 /-- package-level variables that hold what they hold for ever -/
 globs:List (Nat × List LV)
 /-- boxes of this function (by slot) that are written behind their making -/
 refs:List Nat
 /-- the number of temporaries -/
 nt:Nat
def scalarC:Value→Option LV
 | .bool b=>some (.bool b)
 | .int k n=>some (.int k n)
 | .string s=>some (.str s)
 | .pointer none=>some .nilp
 | .slice none 0 0=>some .nils
 | .map none=>some .nilm
 | .nilFunc=>some .nilf
 | .nilIface=>some .nili
 | _=>none
def constC:Value→Option LV
 | .agg cs=>(cs.toList.mapM scalarC).map .agg
 | .tuple vs=>if vs.toList.length=0 then some (.tup []) else none
 | v=>scalarC v
def opd (c:Ctx):Operand→Option Opd
 | .tmp t=>some (.t t)
 | .const v=>(constC v).map .c
 | .global g=>((c.globs.find? fun x=>x.1 == g).map fun x=>.c (.pimm x.2 0))
 | .func f=>some (.c (.fn (.func f) [] []))
def opds (c:Ctx) (l:List Operand):Option (List Opd):=l.mapM (opd c)
def opdO (c:Ctx):Option Operand→Option (Option Opd)
 | none=>some none
 | some x=>(opd c x).map some
def szOf (P:Program) (t:TypeId):Option Nat:=(P.info? t).map (·.size)
def aggOf (P:Program) (t:TypeId):Option (Option Nat) :=
 match P.underlying t with
 | some (.struct _) | some (.array _ _)=>(szOf P t).map some
 | some _=>some none
 | none=>none
def zeroC (P:Program) (t:TypeId):Option (List LV):=do
 let i ← P.info? t
 let z ← i.zero
 cells? (← constC z)
def scTy (P:Program) (t:TypeId):Option EqTy:=
 match P.underlying t with
 | some .bool=>some .bool
 | some (.int _)=>some .int
 | some .string=>some .str
 | _=>none
def scFlds (P:Program) (fs:List Field):Option (List (Nat × Nat × EqTy)):=fs.mapM fun f=>(scTy P f.type).map fun e=>(f.offset,1,e)
def fldEq (P:Program) (f:Field):Option (List (Nat × Nat × EqTy)) :=
 match scTy P f.type with
 | some e=>some [(f.offset,1,e)]
 | none=>
  match P.underlying f.type,szOf P f.type with
  | some (.struct gs),some n=>
   if P.stoodInHeld f.type || !(gs.toList.all fun g => g.name != "_" && Nat.blt g.offset n) then none else
   (scFlds P gs.toList).map fun l=>l.map fun p=>(f.offset+p.1,p.2)
  | _,_=>none
def fldsEq (P:Program):List Field→Option (List (Nat × Nat × EqTy))
 | []=>some []
 | f::fs=>
  match fldEq P f with
  | some a=>(match fldsEq P fs with | some b=>some (a++b) | none=>none)
  | none=>none
def eqTy (P:Program) (t:TypeId):Option EqTy:=
 match P.underlying t with
 | some .bool | some (.int _) | some .string=>scTy P t
 | some (.pointer _)=>some .ptr
 | some (.slice _)=>some .slc
 | some (.map _ _)=>some .mp
 | some (.func _ _ _)=>some .fnc
 | some (.interface _)=>some .ifc
 | some (.struct fs) =>
  if P.stoodInHeld t || P.eqGuardType P.depth t then none else
  if fs.toList.all (fun f => f.name != "_") then (fldsEq P fs.toList).map .struct else none
 | _=>none
def partsOf (c:Ctx) (place:Nat→Option (Nat × Nat)) (ps:List (Nat × Operand)):Option (List (Nat × Nat × Opd)) :=
 ps.mapM fun (i,x)=>do
  let (off,size) ← place i
  let x ← opd c x
  some (off,size,x)
def isArith:BinOp→Bool
 | .eql | .neq=>false
 | _=>true
def knownTy (P:Program) (t:TypeId):Option Unit:=
 match P.underlying t with
 | some _=>some ()
 | none=>none
def ptrT (P:Program) (t:TypeId):Bool:=
 match P.underlying t with
 | some (.pointer el)=>(match szOf P el with | some n=>n != 0 | none=>false)
 | _=>false
def nilO:Opd→Bool
 | .c .nilp=>true
 | _=>false
def isNeq:BinOp→Bool
 | .neq=>true
 | _=>false
def boxIm (c:Ctx) (o:Oper):Bool:=
 match o.dst with
 | some d=>!c.refs.contains d
 | none=>false
def compLen (c:Ctx) (x:Operand) (t:TypeId):Option LOp:=
 match c.P.underlying t with
 | some (.slice _)=>do some (.lenSl (← opd c x))
 | some .string=>do some (.lenStr (← opd c x))
 | some (.array n _)=>some (.lenArr n)
 | some (.map _ _)=>do some (.lenMap (← opd c x))
 | _=>none
def isSeq:TypeDesc→Bool
 | .slice _ | .string=>true
 | _=>false
def isU8 (P:Program) (t:TypeId):Bool:=
 match P.underlying t with
 | some (.int .u8)=>true
 | _=>false
def keyKind (P:Program) (t:TypeId):Option KTy:=
 match P.underlying t with
 | some (.int k)=>some (.int k)
 | some .string=>some .str
 | some (.struct _) =>
  match eqTy P t with
  | some (.struct es)=>some (.st es)
  | _=>none
 | _=>none
def isIntD:TypeDesc→Bool
 | .int _=>true
 | _=>false
def compCap (c:Ctx) (x:Operand) (t:TypeId):Option LOp:=
 match c.P.underlying t with
 | some (.slice _)=>do some (.capZ (← opd c x))
 | _=>none
def keepO (c:Ctx):Operand→Bool
 | .tmp d=>c.refs.contains d
 | _=>false
def compAppend (c:Ctx) (x y:Operand) (t u:TypeId):Option LOp:=
 match c.P.underlying t with
 | some (.slice e)=>do
  let d ← c.P.underlying u
  let i ← c.P.info? e
  let z ← zeroC c.P e
  if i.size=0∨i.bytes=0∨z.length≠i.size then none else
  if isSeq d=true then (if keepO c y=true then do some (.appendK i.size i.bytes (← opd c x) (← opd c y)) else do some (.append i.size i.bytes (← opd c x) (← opd c y))) else
  if isIntD d=true then do some (.appz i.size i.bytes z (← opd c x) (← opd c y)) else none
 | _=>none
def compCopy (c:Ctx) (x y:Operand) (t:TypeId):Option LOp:=
 match c.P.underlying t with
 | some (.slice e)=>do some (.copy (← szOf c.P e) (← opd c x) (← opd c y))
 | _=>none
def compClr (c:Ctx) (x:Operand) (t:TypeId):Option LOp:=
 match c.P.underlying t with
 | some (.slice e)=>do some (.clr (← szOf c.P e) (← zeroC c.P e) (← opd c x))
 | _=>none
def compBuiltin (c:Ctx) (b:Builtin) (as:List Operand) (ts:List TypeId):Option LOp:=
 match b,as,ts with
 | .len,[x],[t]=>compLen c x t
 | .append,[x,y],[t,u]=>compAppend c x y t u
 | .copy,[x,y],[t,_]=>compCopy c x y t
 | .cap,[x],[t]=>compCap c x t
 | .clear,[x],[t]=>compClr c x t
 | .min,x::xs,_=>do some (.minmax false (← opds c (x::xs)))
 | .max,x::xs,_=>do some (.minmax true (← opds c (x::xs)))
 | _,_,_=>none
def compOp (c:Ctx) (o:Oper):Option LOp:=
 match o.op with
 | .move x | .assign x=>(opd c x).map .mv
 | .pick k a b=>do some (.pick (← opd c k) (← opd c a) (← opd c b))
 | .box _ x=>do some (.box (boxIm c o) (← opd c x))
 | .alloc t=>do some (.alloc (← zeroC c.P t))
 | .build t ps=>do
  let z ← zeroC c.P t
  match c.P.underlying t with
  | some (.struct fs) =>
   let places ← fs.toList.mapM fun f=>do some (f.offset,← szOf c.P f.type)
   some (.build z (← partsOf c (places[·]?) ps.toList))
  | some (.array _ e)=>do
   let size ← szOf c.P e
   some (.build z (← partsOf c (fun i=>some (i*size,size)) ps.toList))
  | _=>none
 | .buildSlice t len ps=>
  match c.P.underlying t with
  | some (.slice e)=>do
   let size ← szOf c.P e
   let z ← zeroC c.P e
   if size=0∨z.length≠size∨len*size > 2 ^ 20 then none else
   some (.bslice size len z (← partsOf c (fun i=>some (i*size,size)) ps.toList))
  | _=>none
 | .load t x=>do some (.load (← aggOf c.P t) (← opd c x))
 | .store t a x=>do some (.store (← szOf c.P t) (← opd c a) (← opd c x))
 | .nilCheck x=>do some (.nilchk (← opd c x))
 | .binOp op xt x y _=>do
  let x ← opd c x
  let y ← opd c y
  match c.P.underlying xt with
  | some (.int _) | some .string=>some (.bin op x y)
  | _=>if isArith op then none else do
   let et ← eqTy c.P xt
   if (ptrT c.P xt && !nilO x && !nilO y)=true then some (.eqp (isNeq op) x y) else some (.eq (isNeq op) et x y)
 | .unOp op _ x=>do some (.un op (← opd c x))
 | .convert src dst x=>
  match c.P.underlying dst with
  | some (.int k)=>do knownTy c.P src;some (.convInt k (← opd c x))
  | some .string=>
   match c.P.underlying src with
   | some (.slice el)=>if isU8 c.P el then (opd c x).map .bytesStr else none
   | some _=>(opd c x).map .convSame
   | none=>none
  | _=>none
 | .range t x=>
  match c.P.underlying t with
  | some (.map _ _)=>do some (.mrange (← opd c x))
  | _=>none
 | .next x false=>(opd c x).map .mnext
 | .entry x=>(opd c x).map .mentry
 | .makeMap t x=>
  match c.P.underlying t with
  | some (.map _ _)=>do some (.mkmap (← opdO c x))
  | _=>none
 | .lookup t m k ok=>
  match c.P.underlying t with
  | some (.map key elem)=>do
   let kd ← keyKind c.P key
   let z ← (c.P.info? elem).bind (·.zero)
   some (.mlook kd (← constC z) ok (← opd c m) (← opd c k))
  | _=>none
 | .mapUpdate t m k x | .insert t m k x=>
  match c.P.underlying t with
  | some (.map key _)=>do
   let kd ← keyKind c.P key
   some (.mupd kd (← opd c m) (← opd c k) (← opd c x))
  | _=>none
 | .slice t x (some lo) (some hi) (some mx) =>
  match c.P.underlying t with
  | some (.slice e)=>do let _ ← szOf c.P e;some (.sliceZ (← opd c x) (← opd c lo) (← opd c hi) (← opd c mx))
  | _=>none
 | .makeFunc (.func f) first caps=>do some (.mkfn (.func f) (← opds c first.toList) (← opds c caps.toList))
 | .makeSlice t l k=>
  match c.P.underlying t with
  | some (.slice e)=>do
   let i ← c.P.info? e
   let z ← zeroC c.P e
   if i.size=0 then none else
   some (.mkslice i.size i.bytes z (← opd c l) (← opd c k))
  | _=>none
 | .slice t x lo hi none=>
  match c.P.underlying t with
  | some (.slice e)=>do some (.slice (← szOf c.P e) (← opd c x) (← opdO c lo) (← opdO c hi))
  | some .string=>do some (.sliceStr (← opd c x) (← opdO c lo) (← opdO c hi))
  | some (.array n e)=>do some (.sliceArr (← szOf c.P e) n (← opd c x) (← opdO c lo) (← opdO c hi))
  | _=>none
 | .fieldAddr s x f=>
  match c.P.underlying s with
  | some (.struct fs)=>do
   let fl ← fs[f]?
   let size ← szOf c.P fl.type
   if size=0 then none else some (.faddr fl.offset (← opd c x))
  | _=>none
 | .field t x f=>
  match c.P.underlying t with
  | some (.struct fs)=>do
   let fl ← fs[f]?
   some (.field fl.offset (← aggOf c.P fl.type) (← opd c x))
  | _=>none
 | .indexAddr t x i=>
  match c.P.underlying t with
  | some (.slice e)=>do some (.iaddr (← szOf c.P e) (← opd c x) (← opd c i))
  | some (.array n e)=>do some (.iaddrArr (← szOf c.P e) n (← opd c x) (← opd c i))
  | _=>none
 | .index t x i=>
  match c.P.underlying t with
  | some (.array n e)=>do some (.indexArr (← szOf c.P e) n (← aggOf c.P e) (← opd c x) (← opd c i))
  | some .string=>do some (.indexStr (← opd c x) (← opd c i))
  | _=>none
 | .extract x i=>do some (.ext (← opd c x) i)
 | .call { callee:=.value f,args, .. } => do some (.call (← opd c f) (← opds c args.toList))
 | .call { callee:=.builtin b,args,argTypes } => compBuiltin c b args.toList argTypes.toList
 | _=>none
def compOper (c:Ctx) (ops:Array Oper) (o:Oper):Option LOper:=do
 let op ← compOp c o
 match o.dst with
 | some d=>if d<c.nt then pure () else none
 | none=>pure ()
 match o.guard with
 | none=>some { dst:=o.dst,op }
 | some (j,want)=>do
  let d ← (ops[j]?).bind (·.dst)
  some { dst:=o.dst,op,guard:=some (d,want) }
def Op.looks:Op→Bool
 | .move _ | .assign _ | .pick .. | .build .. | .load .. | .nilCheck _ | .binOp .. | .unOp .. | .fieldAddr .. | .field .. | .indexAddr .. | .index .. | .extract .. | .makeFunc .. | .slice .. => true
 | .convert .. => true
 | .call { callee:=.builtin .len, .. } | .call { callee:=.builtin .min, .. } | .call { callee:=.builtin .max, .. } => true
 | _=>false
def Op.makes:Op→Bool
 | .alloc _ | .box .. | .buildSlice .. | .makeSlice .. => true
 | _=>false
def Op.reads:Op→Bool
 | .load .. => true
 | _=>false
def depsOf (o:Oper):List Nat:=o.after.toList.filterMap fun e=>if Region.binds .any e then some e.on else none
def ancs:List Oper→List Nat→List Nat
 | [],acc=>acc
 | o::os,acc=>ancs os (acc++[(depsOf o).foldl (fun s j=>s ||| 2 ^ j ||| acc.getD j 0) 0])
def looksL:LOp→Bool
 | .box .. | .alloc _ | .bslice .. | .mkslice .. | .store .. | .append .. | .appendK .. | .copy .. | .call .. | .mkmap _ | .mupd .. | .mrange _ | .mnext _ | .appz .. | .clr .. | .eqp .. => false
 | _=>true
def isLoadL:LOp→Bool
 | .load .. | .bytesStr _ | .mlook .. | .lenMap _ | .mentry _ | .sliceArr .. => true
 | _=>false
def isNewL:LOp→Bool
 | .bytesStr _ | .sliceZ .. | .mlook .. | .lenMap _ | .mkmap _ | .mupd .. | .mrange _ | .mentry _ | .capZ _ | .appz .. => true
 | _=>false
def isBoxIm:LOp→Bool
 | .box true _=>true
 | _=>false
def isRow:LOp→Bool
 | .box false _ | .alloc _ | .bslice .. | .mkslice .. => true
 | _=>false
def isFloat (o:LOp):Bool:=looksL o || isBoxIm o || isRow o
abbrev DOp:=Nat × Oper × LOper
def readsOf (ops:Array Oper) (x:DOp):List Nat:=x.2.1.looksAt ops++x.2.2.op.tmps++(match x.2.2.guard with | some g=>[g.1] | none=>[])
def isLate (ops:Array Oper) (anc:List Nat) (all:List DOp) (x:DOp):Bool:=
 looksL x.2.2.op && match x.2.2.dst with
 | some d=>all.any fun z=>(readsOf ops z).contains d && !(anc.getD z.1 0).testBit x.1
 | none=>false
def floats (late:DOp→Bool) (x:DOp):Bool:=isFloat x.2.2.op && !late x
def canon (ops:List Oper) (fl:List Nat):Nat→List Nat→List Nat→List Nat→List Nat
 | 0,_,_,_=>[]
 | n + 1, done, rest, turn =>
  let rdy:=fun (i:Nat)=>((ops[i]?).map fun o=>(depsOf o).all fun j=>done.contains j).getD false
  match rest.find? (fun i=>fl.contains i && rdy i) with
  | some i=>i::canon ops fl n (i::done) (rest.erase i) turn
  | none=>
   match turn with
   | i::turn=>i::canon ops fl n (i::done) (rest.erase i) turn
   | []=>[]
def chkOf (anc:List Nat) (pre:List DOp) (x:DOp):List (Nat × Option (Nat × Bool) × LOp) :=
 if looksL x.2.2.op || isBoxIm x.2.2.op then [] else
 pre.filterMap fun y=>if isLoadL y.2.2.op && (isRow x.2.2.op || !(anc.getD x.1 0).testBit y.1) then y.2.2.dst.map fun d=>(d,y.2.2.guard,y.2.2.op) else none
def drawn (anc:List Nat):List DOp→List DOp→List LOper
 | _,[]=>[]
 | pre,x::rest=>{ x.2.2 with chk:=chkOf anc pre x,fl:=true } :: drawn anc (pre++[x]) rest
def drawChk1 (ops:Array Oper) (anc:List Nat) (base:List DOp) (late:DOp→Bool) (pre:List DOp) (x:DOp) (rest:List DOp):Bool:=
 (depsOf x.2.1).all (fun j=>(pre.map (·.1)).contains j) &&
 (floats late x || rest.all fun y=>!floats late y || (depsOf y.2.1).any fun j=>!(pre.map (·.1)).contains j) &&
 base.all (fun y=>match y.2.2.dst with
  | some d=>!(readsOf ops x).contains d || (y.1 != x.1 && (anc.getD x.1 0).testBit y.1) || (late y && (y.1 == x.1 || (anc.getD y.1 0).testBit x.1))
  | none=>true) &&
 base.all (fun y=>match y.2.2.dst with
  | some d=>x.1 == y.1 || x.2.2.dst != some d
  | none=>true) &&
 pre.all (fun y=>match x.2.2.dst with
  | some d=>!(readsOf ops y).contains d || (late x && (anc.getD x.1 0).testBit y.1)
  | none=>true) &&
 (!isLoadL x.2.2.op || x.2.2.dst.isSome) &&
 (!isRow x.2.2.op || Op.makes x.2.1.op)
def drawChk (ops:Array Oper) (anc:List Nat) (base:List DOp) (late:DOp→Bool):List DOp→List DOp→Bool
 | _,[]=>true
 | pre,x::rest=>drawChk1 ops anc base late pre x rest && drawChk ops anc base late (pre++[x]) rest
def exts (anc:List Nat):Nat→List Nat→List (List Nat)
 | 0,_=>[[]]
 | n+1,rem=>(rem.filter fun i=>rem.all fun j=>j == i || !(anc.getD i 0).testBit j).flatMap fun i=>(exts anc n (rem.erase i)).map (i::·)
def loose (anc:List Nat):List Nat→Nat
 | []=>0
 | i::r=>(r.filter fun j=>!(anc.getD i 0).testBit j && !(anc.getD j 0).testBit i).length+loose anc r
def compOne (ops:Array Oper) (anc:List Nat) (all:List DOp) (late:DOp→Bool) (fl turn:List Nat):Option (List LOper) :=
 match (canon ops.toList fl ops.size [] (List.range ops.size) turn).mapM (fun i=>all[i]?) with
 | none=>none
 | some base=>
  if base.length=ops.size∧(base.map (·.1)).Nodup∧(List.range ops.size).all (fun i=>(base.map (·.1)).contains i)=true∧(base.filter fun x=>!floats late x).map (·.1)=turn∧drawChk ops anc base late [] base=true then some (drawn anc [] base) else none
def compDraw (c:Ctx) (ops:Array Oper):Option (List (List LOper)) :=
 let anc:=ancs ops.toList []
 match (List.range ops.size).mapM (fun i=>do let o ← ops[i]?;let lo ← compOper c ops o;some (i,o,lo)) with
 | none=>none
 | some all=>
  let late:=isLate ops anc all
  let fl:=(all.filter (floats late)).map (·.1)
  let nf:=(all.filter fun x=>!floats late x).map (·.1)
  if loose anc nf≤2∧(exts anc nf.length nf).isEmpty=false then (exts anc nf.length nf).mapM (compOne ops anc all late fl) else none
def compRegion (c:Ctx) (ops:Array Oper) (draw:Bool):Option (List (List LOper)) :=
 if draw then compDraw c ops else (ops.toList.mapM (compOper c ops)).map fun l=>[l]
def compCode (c:Ctx):Code→LCode
 | .skip | .label _=>.skip
 | .region _ ops draw=>
  match compRegion c ops draw with
  | some [l]=>.region l
  | some ls=>.alts ls
  | none=>.bad
 | .seq a b=>.seq (compCode c a) (compCode c b)
 | .cond x a b=>match opd c x with | some y=>.cond y (compCode c a) (compCode c b) | none=>.bad
 | .block id a=>.block id (compCode c a)
 | .loop a=>.loop (compCode c a)
 | .rangeFunc f ps as bo=>
  match opd c f with
  | some y=>if ps.toList.all (· < c.nt) then .rangeFunc y ps.toList (compCode c as) (compCode c bo) else .bad
  | none=>.bad
 | .exit id=>.exit id
 | .scope a=>.scope (compCode c a)
 | .ret=>.ret
 | .goto _=>.bad
 | .refuse _=>.bad
def compRes (c:Ctx):ResultVar→Option LRes
 | .tmp t=>some (.tmp t)
 | .cell a t=>do some (.cell a (← aggOf c.P t))
def compFunc (P:Program) (globs:List (Nat × List LV)) (refs:List Nat) (fn:Func):Option LFunc:=do
 let body ← fn.body
 let c:Ctx:=⟨P,globs,refs,fn.ntmps⟩
 some { ntmps:=fn.ntmps,results:=← fn.results.toList.mapM (compRes c),body:=compCode c body }
end Go.Pv
end
section
namespace Go.Pv
open Go Go.RowKit
section
variable {P:Program} {w:World} {μ:Mu} {ι:Io}
theorem ru {t:TypeId} {d:TypeDesc} (h:P.underlying t=some d):(underlying t).run P w = .ok d w:=run_underlying h w
theorem rti {t:TypeId} {i:TypeInfo} (h:P.info? t=some i):(typeInfo t).run P w = .ok i w:=by simp [typeInfo,h]
theorem rsz {t:TypeId} {n:Nat} (h:szOf P t=some n):(sizeOf t).run P w = .ok n w:=by
 unfold szOf at h
 cases hi:P.info? t with
 | none=>simp [hi] at h
 | some i=>simp [hi] at h;simp [sizeOf,rti hi,h]
theorem rz {t:TypeId} {i:TypeInfo} {v:Value} (h:P.info? t=some i) (hz:i.zero=some v):(zeroValue t).run P w = .ok v w:=by simp [zeroValue,rti h,hz]
theorem aggOf_none {t:TypeId} (h:aggOf P t=some none):(isAgg t).run P w = .ok false w:=by
 unfold aggOf at h
 cases hu:P.underlying t with
 | none=>simp [hu] at h
 | some d=>
  rw [hu] at h
  cases d<;>first
   | (simp [isAgg,ru hu];done)
   | (simp only at h;cases hs:szOf P t<;>simp [hs] at h)
theorem aggOf_some {t:TypeId} {n:Nat} (h:aggOf P t=some (some n)):(isAgg t).run P w = .ok true w∧szOf P t=some n:=by
 unfold aggOf at h
 cases hu:P.underlying t with
 | none=>simp [hu] at h
 | some d=>
  rw [hu] at h
  cases d<;>first
   | (simp at h;done)
   | (simp only at h;refine ⟨by simp [isAgg,ru hu],?_⟩;cases hs:szOf P t<;>simp_all)
theorem rv_scalarC {v:Value} {x:LV} (h:scalarC v=some x):Rv μ ι w x v:=by
 unfold scalarC at h
 split at h<;>first | (cases h;constructor;done) | (cases h;done) | skip
theorem mapM_get {α β:Type} {f:α→Option β} : ∀ {l:List α} {r:List β},l.mapM f=some r→r.length=l.length∧∀ i (h:i<l.length),∃ y,r[i]? = some y∧f l[i]=some y:=by
 intro l
 induction l with
 | nil=>intro r h;simp at h;subst h;exact ⟨rfl,fun i h=>absurd h (Nat.not_lt_zero _)⟩
 | cons a l ih=>
  intro r h
  rw [List.mapM_cons] at h
  cases ha:f a with
  | none=>simp [ha] at h
  | some b=>
   cases hl:l.mapM f with
   | none=>simp [ha,hl] at h
   | some bs=>
    simp [ha,hl] at h
    subst h
    obtain ⟨h1,h2⟩:=ih hl
    refine ⟨by simp [h1],fun i hi=>?_⟩
    cases i with
    | zero=>exact ⟨b,by simp,by simpa using ha⟩
    | succ i=>obtain ⟨y,hy,hf⟩:=h2 i (by simpa using hi);exact ⟨y,by simpa using hy,by simpa using hf⟩
theorem getD_of_get? {α:Type} {l:List α} {i:Nat} {y d:α} (h:l[i]? = some y):l.getD i d=y:=by simp [List.getD_eq_getElem?_getD,h]
theorem rv_constC {v:Value} {x:LV} (h:constC v=some x):Rv μ ι w x v:=by
 unfold constC at h
 split at h
 ·rename_i cs
  cases hm:cs.toList.mapM scalarC with
  | none=>simp [hm] at h
  | some l=>
   simp [hm] at h
   subst h
   obtain ⟨h1,h2⟩:=mapM_get hm
   refine .agg (by simp [h1]) (fun i hi=>?_)
   obtain ⟨y,hy,hs⟩:=h2 i (by rw [← h1];exact hi)
   rw [getD_of_get? hy]
   have hi':i<cs.size:=by simpa [h1] using hi
   have:cs.getD i undef=cs.toList[i]'(by simpa using hi'):=by simp [Array.getD_eq_getD_getElem?,hi']
   rw [this]
   exact rv_scalarC hs
 ·split at h
  ·rename_i vs h0
   cases h
   have:vs = #[]:=by apply Array.ext';exact List.length_eq_zero_iff.1 h0
   subst this
   exact .tup rfl (fun i hi=>absurd hi (Nat.not_lt_zero _))
  ·cases h
 ·exact rv_scalarC h
theorem oneCell_rel {v:LV} {x:Value} (hv:Rv μ ι w v x) (h:isCell v=true):x.oneCell'=true:=by
 cases hv<;>first | rfl | (simp [isCell] at h;done)
theorem cells_rel {v:LV} {x:Value} {cs:List LV} (hv:Rv μ ι w v x) (h:cells? v=some cs) :
  x.cells.size=cs.length∧(∀ i,i<cs.length→Rv μ ι w (cs.getD i .top) (x.cells.getD i undef))∧cs.all isCell=true:=by
 cases hv with
 | agg hl hr=>
  simp only [cells?] at h
  split at h
  ·rename_i ha;cases h;exact ⟨hl,hr,ha⟩
  ·cases h
 | top=>cases h
 | tup=>cases h
 | _ =>
  cases h
  refine ⟨rfl,fun i hi=>?_,rfl⟩
  obtain rfl:i=0:=by simpa using hi
  first
   | exact .bool _ | exact .int _ _ | exact .str _ | exact .nilp | exact .nils | exact .nilf | exact .nili | exact .nilm
   | (constructor<;>assumption)
theorem cells_one {v:LV} {x:Value} {cs:List LV} (hv:Rv μ ι w v x) (h:cells? v=some cs):∀ y∈x.cells.toList,y.oneCell'=true:=by
 obtain ⟨h1,h2,h3⟩:=cells_rel hv h
 intro y hy
 obtain ⟨i,hi,rfl⟩:=List.getElem_of_mem hy
 have hi':i<cs.length:=by rw [← h1];simpa using hi
 have:=oneCell_rel (h2 i hi') (by
  rw [List.all_eq_true] at h3
  refine h3 _ ?_
  simp [List.getD_eq_getElem?_getD,hi'])
 have hi2:i<x.cells.size:=by simpa using hi
 simpa [Array.getD_eq_getD_getElem?,hi2] using this
end
end Go.Pv
end
section
namespace Go.Pv
open Go Go.RowKit
section
variable {P:Program} {w:World} {w0:Bs} {μ:Mu} {ι:Io} {δ:Nat→Prop} {s s':St} {cmp:Nat→LCode→Code→Prop}
theorem getD_drop_take (cs:List LV) (off k i:Nat) (hi:i<k):((cs.drop off).take k).getD i .top=cs.getD (off+i) .top:=by
 simp [List.getD_eq_getElem?_getD,hi]
theorem loadVar_rel {t:TypeId} {n:Option Nat} (ha:aggOf P t=some n) {cs:List LV} {b o off:Nat} {v:LV}
  (hc:∀ i,i<cs.length→∃ x,w.cell? ⟨b,o+i,none⟩=some x∧Rv μ ι w (cs.getD i .top) x) (hv:mkVal n cs off=some v) :
  ∃ x,(loadVar t ⟨b,o+off,none⟩).run P w = .ok x w∧Rv μ ι w v x:=by
 cases n with
 | none=>
  simp only [mkVal] at hv
  obtain ⟨hlt,rfl⟩:=List.getElem?_eq_some_iff.1 hv
  obtain ⟨x,hx,hr⟩:=hc off hlt
  refine ⟨x,by simp [loadVar,aggOf_none ha,hx],?_⟩
  simpa [List.getD_eq_getElem?_getD,hlt] using hr
 | some k=>
  simp only [mkVal] at hv
  split at hv
  ·rename_i hle
   cases hv
   obtain ⟨h1,h2⟩:=aggOf_some (w:=w) ha
   have hch:∀ i,∃ x,i<k→(w.cell? ⟨b,o+off+i,none⟩=some x∧Rv μ ι w (cs.getD (off+i) .top) x):=fun i=>by
    by_cases hi:i<k
    ·obtain ⟨x,hx,hr⟩:=hc (off+i) (by omega)
     exact ⟨x,fun _=>⟨by rw [← hx];congr 2;omega,hr⟩⟩
    ·exact ⟨undef,fun h=>absurd h hi⟩
   let f:Nat→Value:=fun i=>Classical.choose (hch i)
   have hf:∀ i,i<k→(w.cell? ⟨b,o+off+i,none⟩=some (f i)∧Rv μ ι w (cs.getD (off+i) .top) (f i)):=fun i hi=>Classical.choose_spec (hch i) hi
   have hrun:=run_loadCells (P:=P) (w:=w) b (o+off) ((List.range k).map f) (fun j hj=>by
    have hj':j<k:=by simpa using hj
    rw [(hf j hj').1]
    simp [List.getD_eq_getElem?_getD,hj'])
   rw [List.length_map,List.length_range] at hrun
   refine ⟨.agg ((List.range k).map f).toArray,by simp [loadVar,h1,rsz h2,hrun],?_⟩
   have hlen:((cs.drop off).take k).length=k:=by simp;omega
   refine .agg (by simp [hlen]) (fun i hi=>?_)
   rw [hlen] at hi
   rw [getD_drop_take _ _ _ _ hi]
   have:=(hf i hi).2
   simpa [Array.getD_eq_getD_getElem?,hi] using this
  ·cases hv
theorem part_rel {t:TypeId} {n:Option Nat} (ha:aggOf P t=some n) {cs:List LV} {vs:Array Value} {off:Nat} {v:LV}
  (hl:vs.size=cs.length) (h:∀ i,i<cs.length→Rv μ ι w (cs.getD i .top) (vs.getD i undef)) (hv:mkVal n cs off=some v) :
  ∃ x,(part t vs off).run P w = .ok x w∧Rv μ ι w v x:=by
 cases n with
 | none=>
  simp only [mkVal] at hv
  obtain ⟨hlt,rfl⟩:=List.getElem?_eq_some_iff.1 hv
  have hr:=h off hlt
  have hlt':off<vs.size:=by omega
  refine ⟨vs[off],by simp [part,aggOf_none ha,hlt'],?_⟩
  simpa [List.getD_eq_getElem?_getD,hlt,Array.getD_eq_getD_getElem?,hlt'] using hr
 | some k=>
  simp only [mkVal] at hv
  split at hv
  ·rename_i hle
   cases hv
   obtain ⟨h1,h2⟩:=aggOf_some (w:=w) ha
   refine ⟨.agg (vs.extract off (off+k)),by simp [part,h1,rsz h2],?_⟩
   have hlen:((cs.drop off).take k).length=k:=by simp;omega
   refine .agg (by simp [hlen];omega) (fun i hi=>?_)
   rw [hlen] at hi
   rw [getD_drop_take _ _ _ _ hi]
   have:=h (off+i) (by omega)
   have hx:(vs.extract off (off+k)).getD i undef=vs.getD (off+i) undef:=by
    simp only [Array.getD_eq_getD_getElem?,Array.getElem?_extract]
    rw [if_pos (by omega)]
   rw [hx];exact this
  ·cases hv
theorem Inv.cellsAt (I:Inv cmp w0 μ ι δ s w) {id:Nat} {m:Md} {cs:List LV} {p:Place} (hg:s.get id=some (.cells m cs)) (hp:μ id=some p) :
  ∀ i,i<cs.length→∃ x,w.cell? ⟨p.b,p.off+i,none⟩=some x∧Rv μ ι w (cs.getD i .top) x:=fun i hi=>by
 obtain ⟨_,h1,h2,_⟩:=I.blk id _ p hg hp
 obtain ⟨x,hx,_,hr⟩:=h2 i (by omega)
 exact ⟨x,hx,hr hi⟩
theorem Inv.cellsAt1 (I:Inv cmp w0 μ ι δ s w) {id:Nat} {m:Md} {cs:List LV} {p:Place} (hg:s.get id=some (.cells m cs)) (hp:μ id=some p) :
  ∀ i,i<cs.length→∃ x,w.cell? ⟨p.b,p.off+i,none⟩=some x∧x.oneCell'=true∧Rv μ ι w (cs.getD i .top) x:=fun i hi=>by
 obtain ⟨_,h1,h2,_⟩:=I.blk id _ p hg hp
 obtain ⟨x,hx,ho,hr⟩:=h2 i (by omega)
 exact ⟨x,hx,ho,hr hi⟩
theorem intBin_rel {t:TypeId} {op:BinOp} {k:IntKind} {x y:Int} {v:LV} (h:intBin op k x y=some v) (hs:op≠.shl∧op≠.shr) :
  ∃ u,(binOp op t (.int k x) (.int k y)).run P w = .ok u w∧Rv μ ι w v u:=by
 cases op<;>simp only [intBin] at h<;>first
  | (cases h;refine ⟨_,by simp [binOp,Op.intArith];rfl,by constructor⟩;done)
  | (cases h;refine ⟨_,by simp [binOp,Op.intBits];rfl,by constructor⟩;done)
  | (cases h;refine ⟨_,by simp [binOp,Op.intCmp];rfl,by constructor⟩;done)
  | (split at h;cases h;rename_i h0;cases h;refine ⟨_,by simp [binOp,Op.intDiv,h0];rfl,by constructor⟩;done)
  | (exact absurd rfl hs.1) | (exact absurd rfl hs.2)
end
end Go.Pv
end
section
namespace Go.Pv
open Go Go.RowKit
section
variable {P:Program} {w:World} {w0:Bs} {μ:Mu} {ι:Io} {δ:Nat→Prop} {s s':St} {cmp:Nat→LCode→Code→Prop}
def Ra (μ:Mu) (ι:Io) (w:World) (cs:List LV) (vs:Array Value):Prop:=vs.size=cs.length∧∀ i,i<cs.length→Rv μ ι w (cs.getD i .top) (vs.getD i undef)
theorem Ra.set {cs:List LV} {vs:Array Value} (h:Ra μ ι w cs vs) {v:LV} {x:Value} (hv:Rv μ ι w v x) (i:Nat):Ra μ ι w (cs.set i v) (vs.setIfInBounds i x):=by
 refine ⟨by simp [h.1],fun j hj=>?_⟩
 have hj':j<cs.length:=by simpa using hj
 have hj2:j<vs.size:=by rw [h.1];exact hj'
 by_cases e:i=j
 ·subst e
  simpa [List.getD_eq_getElem?_getD,Array.getD_eq_getD_getElem?,hj',hj2] using hv
 ·have:=h.2 j hj'
  simpa [List.getD_eq_getElem?_getD,Array.getD_eq_getD_getElem?,List.getElem?_set,Array.getElem?_setIfInBounds,e] using this
theorem Ra.splice (new:List LV):∀ (xs:List Value) (off n:Nat) (cs:List LV) (vs:Array Value),Ra μ ι w cs vs→xs.length=new.length →
  (∀ i,i<new.length→Rv μ ι w (new.getD i .top) (xs.getD i undef)) →
  Ra μ ι w (splice cs (off+n) new) ((xs.zipIdx n).foldl (fun cs x=>cs.setIfInBounds (off+x.2) x.1) vs):=by
 induction new with
 | nil=>intro xs off n cs vs h hl _;simp at hl;subst hl;exact h
 | cons v new ih=>
  intro xs off n cs vs h hl hr
  cases xs with
  | nil=>simp at hl
  | cons x xs=>
   simp only [List.zipIdx_cons,List.foldl_cons,Pv.splice]
   rw [show off+n+1=off+(n+1) from by omega]
   refine ih xs off (n+1) _ _ (h.set (by simpa using hr 0 (by simp)) _) (by simpa using hl) (fun i hi=>?_)
   have:=hr (i+1) (by simpa using hi)
   simpa using this
theorem fill_rel {place:Nat→Option (Nat × Nat)} : ∀ (ps:List (Nat × Value)) (ls:List (Nat × Nat × LV)) (cs cs':List LV) (vs:Array Value),Ra μ ι w cs vs→ps.length=ls.length →
  (∀ (i:Nat) (h:i<ps.length) (h':i<ls.length),place (ps[i].1)=some (ls[i].1,ls[i].2.1)∧Rv μ ι w ls[i].2.2 ps[i].2)→fillParts cs ls=some cs' →
  ∃ vs',Instr.fill place vs ps=some vs'∧Ra μ ι w cs' vs':=by
 intro ps
 induction ps with
 | nil=>
  intro ls cs cs' vs h hl _ hf
  obtain rfl:ls=[]:=by simpa using hl.symm
  simp [fillParts] at hf
  subst hf
  exact ⟨vs,rfl,h⟩
 | cons p ps ih=>
  intro ls cs cs' vs h hl hp hf
  cases ls with
  | nil=>simp at hl
  | cons l ls=>
   obtain ⟨i,x⟩:=p
   obtain ⟨off,size,v⟩:=l
   have h0:=hp 0 (by simp) (by simp)
   simp only [List.getElem_cons_zero] at h0
   simp only [fillParts] at hf
   cases hc:cells? v with
   | none=>simp [hc] at hf
   | some new=>
    simp only [hc] at hf
    split at hf
    ·rename_i hb
     obtain ⟨h1,h2,h3⟩:=cells_rel h0.2 hc
     have hsp:=Ra.splice (new:=new) x.cells.toList off 0 cs vs h (by simp [h1]) (fun i hi=>by
      have:=h2 i hi
      have hi':i<x.cells.size:=by rw [h1];exact hi
      simpa [List.getD_eq_getElem?_getD,Array.getD_eq_getD_getElem?,hi'] using this)
     obtain ⟨vs',hvs',hr'⟩:=ih ls _ cs' _ hsp (by simpa using hl) (fun i h h'=>by
      have:=hp (i+1) (by simpa using h) (by simpa using h')
      simpa using this) hf
     refine ⟨vs',?_,hr'⟩
     simp only [Instr.fill,h0.1]
     rw [if_neg (by simp [h1,hb.1,h.1];omega)]
     rw [← hvs']
     congr 1
     rw [← Array.foldl_toList]
     simp
    ·cases hf
theorem mapM_run {α β:Type} {f:α→Sem β} {g:α→Option β} (hfg:∀ a b,g a=some b→(f a).run P w = .ok b w):∀ (l:List α) (r:List β),l.mapM g=some r→(l.mapM f).run P w = .ok r w:=by
 intro l
 induction l with
 | nil=>intro r h;simp at h;subst h;rfl
 | cons a l ih=>
  intro r h
  rw [List.mapM_cons] at h ⊢
  cases ha:g a with
  | none=>simp [ha] at h
  | some b=>
   cases hl:l.mapM g with
   | none=>simp [ha,hl] at h
   | some bs=>
    simp [ha,hl] at h
    subst h
    simp [hfg a b ha,ih bs hl]
theorem zeroC_run {t:TypeId} {z:List LV} (h:zeroC P t=some z):∃ v,(zeroValue t).run P w = .ok v w∧Ra μ ι w z v.cells∧(∀ y∈z,isCell y=true):=by
 unfold zeroC at h
 cases hi:P.info? t with
 | none=>simp [hi] at h
 | some i=>
  cases hz:i.zero with
  | none=>simp [hi,hz] at h
  | some v=>
   cases hc:constC v with
   | none=>simp [hi,hz,hc] at h
   | some x=>
    simp [hi,hz,hc] at h
    obtain ⟨h1,h2,h3⟩:=cells_rel (rv_constC (μ:=μ) (ι:=ι) (w:=w) hc) h
    exact ⟨v,rz hi hz,⟨h1,h2⟩,by simpa using h3⟩
variable {c:Ctx} {e:Env} {a:Act}
def maParts (a:Act) (ps:List (Nat × Operand)):List (Nat × Value):=ps.map fun q=>(q.1,a.eval q.2)
theorem partsOf_rel {place:Nat→Option (Nat × Nat)} {ps:List (Nat × Operand)} {ls:List (Nat × Nat × Opd)} (h:partsOf c place ps=some ls)
  (hρ:∀ x y,x∈ps.map (·.2)→opd c x=some y→Rv μ ι w (y.ev e) (a.eval x)) :
  (maParts a ps).length=(evParts e ls).length ∧
  ∀ (i:Nat) (h:i<(maParts a ps).length) (h':i<(evParts e ls).length),place ((maParts a ps)[i].1)=some ((evParts e ls)[i].1,(evParts e ls)[i].2.1)∧Rv μ ι w (evParts e ls)[i].2.2 (maParts a ps)[i].2:=by
 obtain ⟨h1,h2⟩:=mapM_get h
 refine ⟨by simp [maParts,evParts,h1],fun i hi hi'=>?_⟩
 have hp:i<ps.length:=by simpa [maParts] using hi
 have hl:i<ls.length:=by simpa [evParts] using hi'
 obtain ⟨y,hy,hf⟩:=h2 i hp
 obtain ⟨hlt,rfl⟩:=List.getElem?_eq_some_iff.1 hy
 simp only [maParts,evParts,List.getElem_map]
 cases hpl:place ps[i].1 with
 | none=>simp [hpl] at hf
 | some q=>
  cases ho:opd c ps[i].2 with
  | none=>simp [hpl,ho] at hf
  | some z=>
   simp [hpl,ho] at hf
   rw [← hf]
   exact ⟨rfl,hρ _ _ (List.mem_map.2 ⟨ps[i],List.getElem_mem hp,rfl⟩) ho⟩
theorem opds_rel {l:List Operand} {r:List Opd} (h:opds c l=some r) (hρ:∀ x y,x∈l→opd c x=some y→Rv μ ι w (y.ev e) (a.eval x)) :
  Ra μ ι w (r.map (·.ev e)) (l.map a.eval).toArray:=by
 obtain ⟨h1,h2⟩:=mapM_get h
 refine ⟨by simp [h1],fun i hi=>?_⟩
 have hi':i<l.length:=by simpa [h1] using hi
 obtain ⟨y,hy,hf⟩:=h2 i hi'
 have:=hρ l[i] y (List.getElem_mem hi') hf
 have hr:i<r.length:=by omega
 obtain ⟨_,rfl⟩:=List.getElem?_eq_some_iff.1 hy
 simpa [List.getD_eq_getElem?_getD,Array.getD_eq_getD_getElem?,hi',hr] using this
theorem idxOf_rel {len:Nat} {v:LV} {x:Value} {k:Nat} (hv:Rv μ ι w v x) (h:idxOf len v=some k):∃ kd i,x = .int kd i∧(asIntOf x).run P w = .ok (kd,i) w∧0≤i∧i<len∧k=i.toNat:=by
 cases hv<;>simp only [idxOf] at h<;>try (cases h;done)
 split at h
 ·rename_i hb;cases h;exact ⟨_,_,rfl,by simp [asIntOf],hb.1,hb.2,rfl⟩
 ·cases h
theorem lenLV_rel {v:LV} {x:Value} {n:Nat} (hv:Rv μ ι w v x) (h:lenLV v=some n):(∃ b c,x = .slice b n c)∨(∃ s,x = .string s∧s.size=n):=by
 cases hv<;>simp only [lenLV] at h<;>first
  | (cases h;done)
  | (cases h;exact .inl ⟨_,_,rfl⟩)
  | (cases h;exact .inr ⟨_,rfl,rfl⟩)
end
end Go.Pv
end
section
set_option linter.unusedSimpArgs false
namespace Go.Pv
open Go Go.RowKit
section
variable {w:World} {w0:Bs} {μ:Mu} {ι:Io} {δ:Nat→Prop} {s s':St} {cmp:Nat→LCode→Code→Prop} {c:Ctx} {e:Env} {a:Act}
theorem bind_some {α β:Type} {x:Option α} {f:α→Option β} {b:β} (h:(x >>= f)=some b):∃ a,x=some a∧f a=some b:=by
 cases x with
 | none=>cases h
 | some a=>exact ⟨a,rfl,h⟩
theorem map_some' {α β:Type} {x:Option α} {f:α→β} {b:β} (h:x.map f=some b):∃ a,x=some a∧f a=b:=by
 cases x with
 | none=>cases h
 | some a=>exact ⟨a,rfl,by simpa using h⟩
def Ho (μ:Mu) (ι:Io) (w:World) (c:Ctx) (e:Env) (a:Act) (o:Oper):Prop:=∀ x y,x∈o.op.operands.toList→opd c x=some y→Rv μ ι w (y.ev e) (a.eval x)
def Looks (μ:Mu) (ι:Io) (w:World) (P:Program) (a:Act) (o:Oper) (v:LV):Prop:=∃ x,(execOp a.eval o).run P w = .ok (.value x) w∧Rv μ ι w v x
theorem look_load (I:Inv cmp w0 μ ι δ s w) {o:Oper} {t:TypeId} {x:Operand} (ho:o.op = .load t x) (hρ:Ho μ ι w c e a o) {n:Option Nat} (hn:aggOf c.P t=some n) {y:Opd} (hy:opd c x=some y)
  {v:LV} (hr:(LOp.load n y).run e s=some (v,s')):s'=s∧Looks μ ι w c.P a o v:=by
 have hx:=hρ x y (by simp [ho,Op.operands]) hy
 simp only [LOp.run] at hr
 generalize y.ev e=lv at *
 generalize hav:a.eval x=av at *
 cases hx<;>simp only at hr<;>try (cases hr;done)
 ·rename_i vs hc hi ho1 h
  obtain ⟨v',h1,h2⟩:=bind_some hr
  cases h2
  obtain ⟨u,hu,hru⟩:=loadVar_rel (w:=w) hn (fun i hi=>⟨_,hc i hi,h i hi⟩) h1
  refine ⟨rfl,u,?_,hru⟩
  simp [execOp,ho,hav,Instr.loadAt,Instr.sureAddr,hu]
 ·rename_i hp
  split at hr
  ·rename_i m cs hg
   obtain ⟨v',h1,h2⟩:=bind_some hr
   cases h2
   obtain ⟨u,hu,hru⟩:=loadVar_rel (w:=w) hn (I.cellsAt hg hp) h1
   refine ⟨rfl,u,?_,hru⟩
   simp [execOp,ho,hav,Instr.loadAt,Instr.sureAddr,hu]
  ·cases hr
theorem scEq_rel {t:TypeId} {et:EqTy} {x y:LV} {u v:Value} {b:Bool} (hx:Rv μ ι w x u) (hy:Rv μ ι w y v) (h:scEq et x y=some b) (ht:scTy c.P t=some et) (d:Nat) :
  (Op.equalIn (d+1) t u v).run c.P w = .ok b w:=by
 unfold scTy at ht
 cases hu:c.P.underlying t with
 | none=>simp [hu] at ht
 | some ty=>
  rw [hu] at ht
  cases ty<;>simp only [Option.some.injEq,reduceCtorEq] at ht<;>subst ht<;>cases hx<;>simp only [scEq,reduceCtorEq] at h<;>cases hy<;>simp only [scEq,reduceCtorEq] at h
  ·cases h;simp [Op.equalIn,ru hu]
  ·split at h
   ·cases h;rename_i e;subst e;simp [Op.equalIn,ru hu]
   ·cases h
  ·cases h;simp [Op.equalIn,ru hu]
theorem scTy_part {t:TypeId} {et:EqTy} (h:scTy c.P t=some et):(isAgg t).run c.P w = .ok false w:=by
 unfold scTy at h
 cases hu:c.P.underlying t with
 | none=>simp [hu] at h
 | some ty=>
  rw [hu] at h
  cases ty<;>simp only [Option.some.injEq,reduceCtorEq] at h<;>simp [isAgg,ru hu]
theorem eqFields_sc (d:Nat) {xs ys:List LV} {us vs:Array Value} (hx:Ra μ ι w xs us) (hy:Ra μ ι w ys vs):∀ (fs:List Field) (es:List (Nat × Nat × EqTy)) (b:Bool),
  fs.all (fun f => f.name != "_") = true → scFlds c.P fs = some es → eqLV.eqFields es xs ys = some b →
  (Op.eqFields (d+1) us vs fs).run c.P w = .ok b w:=by
 intro fs
 induction fs with
 | nil=>intro es b _ hm he;simp [scFlds] at hm;subst hm;simp [eqLV.eqFields] at he;subst he;rfl
 | cons f fs ih=>
  intro es b ha hm he
  unfold scFlds at hm
  rw [List.mapM_cons] at hm
  cases hs:scTy c.P f.type with
  | none=>simp [hs] at hm
  | some et=>
   cases hl:fs.mapM (fun f=>(scTy c.P f.type).map fun e=>(f.offset,1,e)) with
   | none=>simp [hs,hl] at hm
   | some es' =>
    simp [hs,hl] at hm
    subst hm
    simp only [eqLV.eqFields] at he
    split at he
    ·rename_i x y gx gy
     obtain ⟨lx,rfl⟩:=List.getElem?_eq_some_iff.1 gx
     obtain ⟨ly,rfl⟩:=List.getElem?_eq_some_iff.1 gy
     have rx:=hx.2 _ lx
     have ry:=hy.2 _ ly
     have lx':f.offset<us.size:=by rw [hx.1];exact lx
     have ly':f.offset<vs.size:=by rw [hy.1];exact ly
     simp only [List.getD_eq_getElem?_getD,lx,List.getElem?_eq_getElem,Option.getD_some,Array.getD_eq_getD_getElem?,lx',Array.getElem?_eq_getElem] at rx
     simp only [List.getD_eq_getElem?_getD,ly,List.getElem?_eq_getElem,Option.getD_some,Array.getD_eq_getD_getElem?,ly',Array.getElem?_eq_getElem] at ry
     simp only [List.all_cons,Bool.and_eq_true,bne_iff_ne,ne_eq] at ha
     have hp1:(part f.type us f.offset).run c.P w = .ok us[f.offset] w:=by simp [part,scTy_part hs,lx']
     have hp2:(part f.type vs f.offset).run c.P w = .ok vs[f.offset] w:=by simp [part,scTy_part hs,ly']
     split at he
     ·rename_i hsc
      have:=scEq_rel (c:=c) rx ry hsc hs d
      simp [Op.eqFields,ha.1,hp1,hp2,this]
      exact ih es' b ha.2 hl he
     ·rename_i hsc
      cases he
      have:=scEq_rel (c:=c) rx ry hsc hs d
      simp [Op.eqFields,ha.1,hp1,hp2,this]
     ·cases he
    ·cases he
theorem eqFields_app {xs ys:List LV} : ∀ (a b:List (Nat × Nat × EqTy)) {r:Bool},eqLV.eqFields (a++b) xs ys=some r→∃ r1,eqLV.eqFields a xs ys=some r1∧(r1=true→eqLV.eqFields b xs ys=some r)∧(r1=false→r=false):=by
 intro a
 induction a with
 | nil=>intro b r h;exact ⟨true,rfl,fun _=>h,fun h=>by cases h⟩
 | cons p a ih=>
  obtain ⟨off,n,t⟩:=p
  intro b r h
  simp only [List.cons_append,eqLV.eqFields] at h ⊢
  split at h
  ·rename_i x y hx hy
   cases hs:scEq t x y with
   | none=>rw [hs] at h;cases h
   | some q=>
    rw [hs] at h
    cases q with
    | true=>exact ih b h
    | false=>cases h;exact ⟨false,rfl,fun h=>(by cases h),fun _=>rfl⟩
  ·cases h
theorem get_part {α:Type} {xs:List α} {off n q:Nat} (h:q<n):((xs.drop off).take n)[q]? = xs[off+q]? := by
 rw [List.getElem?_take_of_lt h,List.getElem?_drop]
theorem eqFields_shift {off n:Nat} {xs ys:List LV} : ∀ (l:List (Nat × Nat × EqTy)) {r:Bool},(∀ p∈l,p.1<n)→eqLV.eqFields (l.map fun p=>(off+p.1,p.2)) xs ys=some r →
  eqLV.eqFields l ((xs.drop off).take n) ((ys.drop off).take n)=some r:=by
 intro l
 induction l with
 | nil=>intro r _ h;exact h
 | cons p l ih=>
  obtain ⟨q,k,t⟩:=p
  intro r hl h
  have hq:q<n:=hl _ (.head _)
  simp only [List.map_cons,eqLV.eqFields] at h ⊢
  rw [get_part hq,get_part hq]
  split at h
  ·rename_i x y hx hy
   cases hs:scEq t x y with
   | none=>rw [hs] at h;cases h
   | some b=>
    rw [hs] at h
    cases b with
    | true=>exact ih (fun p hp=>hl p (.tail _ hp)) h
    | false=>exact h
  ·cases h
theorem scFlds_lt {P:Program} {n:Nat} : ∀ (gs:List Field) {l:List (Nat × Nat × EqTy)},scFlds P gs=some l→(∀ g∈gs,g.offset<n)→∀ p∈l,p.1<n:=by
 intro gs
 induction gs with
 | nil=>intro l h _ p hp;simp [scFlds] at h;subst h;cases hp
 | cons g gs ih=>
  intro l h hg p hp
  unfold scFlds at h
  rw [List.mapM_cons] at h
  cases hs:scTy P g.type with
  | none=>simp [hs] at h
  | some et=>
   cases hl:gs.mapM (fun f=>(scTy P f.type).map fun e=>(f.offset,1,e)) with
   | none=>simp [hs,hl] at h
   | some l' =>
    simp [hs,hl] at h
    subst h
    rcases List.mem_cons.1 hp with rfl | hp
    ·exact hg g (.head _)
    ·exact ih hl (fun g hg'=>hg g (.tail _ hg')) p hp
theorem ra_part {xs:List LV} {us:Array Value} (h:Ra μ ι w xs us) (off n:Nat):Ra μ ι w ((xs.drop off).take n) (us.extract off (off+n)):=by
 have hs:=h.1
 refine ⟨by simp only [Array.size_extract,List.length_take,List.length_drop];omega,fun i hi=>?_⟩
 simp only [List.length_take,List.length_drop] at hi
 have:=h.2 (off+i) (by omega)
 rw [List.getD_eq_getElem?_getD,get_part (by omega),← List.getD_eq_getElem?_getD,Array.getD_eq_getD_getElem?,Array.getElem?_extract,if_pos (by omega),← Array.getD_eq_getD_getElem?]
 exact this
theorem fldEq_cases {P:Program} {f:Field} {a:List (Nat × Nat × EqTy)} (h:fldEq P f=some a):(∃ e,scTy P f.type=some e∧a=[(f.offset,1,e)]) ∨
  ∃ gs n l, P.underlying f.type = some (.struct gs) ∧ szOf P f.type = some n ∧ P.stoodInHeld f.type = false ∧ gs.toList.all (fun g => g.name != "_") = true ∧ (∀ g ∈ gs.toList, g.offset < n) ∧ scFlds P gs.toList = some l ∧ a = l.map (fun p => (f.offset + p.1, p.2)) := by
 unfold fldEq at h
 split at h
 ·rename_i e he;cases h;exact .inl ⟨e,he,rfl⟩
 ·split at h
  ·rename_i gs n hu hn
   split at h
   ·cases h
   ·rename_i hc
    simp only [Bool.or_eq_true,not_or,Bool.not_eq_true,Bool.not_eq_false'] at hc
    obtain ⟨l,hl,rfl⟩:=map_some' h
    have h2:=hc.2
    simp only [List.all_eq_true,Bool.and_eq_true] at h2
    exact .inr ⟨gs,n,l,hu,hn,hc.1,List.all_eq_true.2 fun g hg=>(h2 g hg).1,fun g hg=>Nat.le_of_ble_eq_true (h2 g hg).2,hl,rfl⟩
  ·cases h
theorem eqFields_rel (d:Nat) {xs ys:List LV} {us vs:Array Value} (hx:Ra μ ι w xs us) (hy:Ra μ ι w ys vs):∀ (fs:List Field) (es:List (Nat × Nat × EqTy)) (b:Bool),
  fs.all (fun f => f.name != "_") = true → fldsEq c.P fs = some es → eqLV.eqFields es xs ys = some b → (Op.eqFields (d + 2) us vs fs).run c.P w = .ok b w := by
 intro fs
 induction fs with
 | nil=>intro es b _ hm he;simp [fldsEq] at hm;subst hm;simp [eqLV.eqFields] at he;subst he;rfl
 | cons f fs ih=>
  intro es b ha hm he
  simp only [fldsEq] at hm
  split at hm
  ·rename_i a hfa
   split at hm
   ·rename_i es' hfs
    cases hm
    obtain ⟨r1,h1,h2,h3⟩:=eqFields_app a es' he
    simp only [List.all_cons,Bool.and_eq_true,bne_iff_ne,ne_eq] at ha
    have key:∃ u v,(part f.type us f.offset).run c.P w = .ok u w∧(part f.type vs f.offset).run c.P w = .ok v w∧(Op.equalIn (d+2) f.type u v).run c.P w = .ok r1 w:=by
     rcases fldEq_cases hfa with ⟨et,hs,rfl⟩ | ⟨gs,n,l,hu,hn,hst,hall,hlt,hl,rfl⟩
     ·simp only [eqLV.eqFields] at h1
      split at h1
      ·rename_i x y gx gy
       obtain ⟨lx,rfl⟩:=List.getElem?_eq_some_iff.1 gx
       obtain ⟨ly,rfl⟩:=List.getElem?_eq_some_iff.1 gy
       have rx:=hx.2 _ lx
       have ry:=hy.2 _ ly
       have lx':f.offset<us.size:=by rw [hx.1];exact lx
       have ly':f.offset<vs.size:=by rw [hy.1];exact ly
       simp only [List.getD_eq_getElem?_getD,lx,List.getElem?_eq_getElem,Option.getD_some,Array.getD_eq_getD_getElem?,lx',Array.getElem?_eq_getElem] at rx
       simp only [List.getD_eq_getElem?_getD,ly,List.getElem?_eq_getElem,Option.getD_some,Array.getD_eq_getD_getElem?,ly',Array.getElem?_eq_getElem] at ry
       refine ⟨us[f.offset],vs[f.offset],by simp [part,scTy_part hs,lx'],by simp [part,scTy_part hs,ly'],?_⟩
       split at h1
       ·rename_i hsc;cases h1;exact scEq_rel (c:=c) rx ry hsc hs (d+1)
       ·rename_i hsc;cases h1;exact scEq_rel (c:=c) rx ry hsc hs (d+1)
       ·cases h1
      ·cases h1
     ·have hp:∀ zs:Array Value,(part f.type zs f.offset).run c.P w = .ok (.agg (zs.extract f.offset (f.offset+n))) w:=fun zs=>by
       simp [part,isAgg,ru hu,rsz hn]
      have hf:c.P.fieldsOf f.type=gs:=by simp [Program.fieldsOf,hu]
      refine ⟨_,_,hp us,hp vs,?_⟩
      rw [run_equalIn_struct (P:=c.P) w (d+1) f.type _ _ (by rw [hf];exact hu) hst,hf]
      exact eqFields_sc (c:=c) d (ra_part hx f.offset n) (ra_part hy f.offset n) gs.toList l r1 hall hl (eqFields_shift l (scFlds_lt _ hl hlt) h1)
    obtain ⟨u,v,k1,k2,k3⟩:=key
    cases r1 with
    | true=>
     simp [Op.eqFields,ha.1,k1,k2,k3]
     exact ih es' b ha.2 hfs (h2 rfl)
    | false=>
     obtain rfl:=h3 rfl
     simp [Op.eqFields,ha.1,k1,k2,k3]
   ·cases hm
  ·cases hm
theorem equal_run {t:TypeId} {u v:Value} {b:Bool} (h:(Op.equalIn 10000 t u v).run c.P w = .ok b w):(Op.equal t u v).run c.P w = .ok b w:=h
theorem eq_step {t:TypeId} {u v:Value} {b:Bool} (n:Nat) (h:∀ d,(Op.equalIn (d+1) t u v).run c.P w = .ok b w):(Op.equalIn (n+1) t u v).run c.P w = .ok b w:=h n
theorem eq_close {t:TypeId} {u v:Value} {b:Bool} {ox oy:Operand} {op:BinOp} (hop:op = .eql∨op = .neq) (hg:(eqGuard op t ox oy u v).run c.P w = .ok () w)
  (h1:binOp .eql t u v=(do pure (.bool (← Op.equal t u v)))) (h2:binOp .neq t u v=(do pure (.bool (!(← Op.equal t u v))))) (h:(Op.equalIn 10000 t u v).run c.P w = .ok b w) :
  ((do eqGuard op t ox oy u v;binOp op t u v):Sem Value).run c.P w = .ok (.bool (if op = .eql then b else !b)) w:=by
 rcases hop with rfl | rfl
 ·rw [Sem.run_bind,hg,Result.andThen_ok,h1,Sem.run_bind,equal_run h];rfl
 ·rw [Sem.run_bind,hg,Result.andThen_ok,h2,Sem.run_bind,equal_run h];rfl
set_option maxHeartbeats 2000000 in
theorem eq_rel {t:TypeId} {et:EqTy} {x y:LV} {u v:Value} {b:Bool} (hx:Rv μ ι w x u) (hy:Rv μ ι w y v) (ht:eqTy c.P t=some et) (h:eqLV et x y=some b) (ox oy:Operand) (op:BinOp) (hop:op = .eql∨op = .neq)
  (hni:∀ k,c.P.underlying t≠some (.int k)) (hns:c.P.underlying t≠some .string) :
  ((do eqGuard op t ox oy u v;binOp op t u v):Sem Value).run c.P w = .ok (.bool (if op = .eql then b else !b)) w:=by
 unfold eqTy at ht
 cases hu:c.P.underlying t with
 | none=>simp [hu] at ht
 | some ty=>
  rw [hu] at ht
  cases ty<;>simp only [reduceCtorEq] at ht
  case int k=>exact absurd hu (hni k)
  case string=>exact absurd hu hns
  case bool=>
   have ht':=ht
   unfold scTy at ht'
   rw [hu] at ht'
   simp only [Option.some.injEq] at ht'
   subst ht'
   cases hx<;>simp only [eqLV,scEq,reduceCtorEq] at h<;>cases hy<;>simp only [eqLV,scEq,reduceCtorEq] at h
   cases h
   exact eq_close hop (by rcases hop with rfl | rfl<;>simp [eqGuard]) rfl rfl (eq_step 9999 (by intro d;unfold Op.equalIn;simp [ru hu]))
  case struct fs=>
   split at ht
   ·cases ht
   ·rename_i hns
    simp only [Bool.or_eq_true,not_or,Bool.not_eq_true] at hns
    split at ht
    ·rename_i hall
     obtain ⟨es,hes,rfl⟩:=map_some' ht
     cases hx<;>simp only [eqLV,scEq,reduceCtorEq] at h<;>cases hy<;>simp only [eqLV,scEq,reduceCtorEq] at h
     rename_i xs us hlx hrx ys vs hly hry
     have hf:c.P.fieldsOf t=fs:=by simp [Program.fieldsOf,hu]
     have hrun:=run_equalIn_struct (P:=c.P) w 9999 t us vs (by rw [hf];exact hu) hns.1
     rw [hf,eqFields_rel (c:=c) 9997 ⟨hlx,hrx⟩ ⟨hly,hry⟩ fs.toList es b hall hes h] at hrun
     exact eq_close hop (run_eqGuard_agg w _ _ _ _ _ _ hns.2) rfl rfl hrun
    ·cases ht
  all_goals
   cases ht
   cases hx<;>simp only [eqLV,scEq,reduceCtorEq] at h<;>cases hy<;>simp only [eqLV,scEq,reduceCtorEq] at h<;>cases h <;>
    exact eq_close hop (by rcases hop with rfl | rfl<;>simp [eqGuard]) rfl rfl (eq_step 9999 (by intro d;unfold Op.equalIn;simp [ru hu]))
end
end Go.Pv
end
section
set_option linter.unusedSimpArgs false
namespace Go.Pv
open Go Go.RowKit
section
variable {w:World} {w0:Bs} {μ:Mu} {ι:Io} {δ:Nat→Prop} {s s':St} {cmp:Nat→LCode→Code→Prop} {c:Ctx} {e:Env} {a:Act} {o:Oper} {v:LV}
theorem look_move {x:Operand} (ho:o.op = .move x∨o.op = .assign x) (hρ:Ho μ ι w c e a o) {y:Opd} (hy:opd c x=some y) (hr:(LOp.mv y).run e s=some (v,s')) :
  s'=s∧Looks μ ι w c.P a o v:=by
 cases hr
 have hx:=hρ x y (by rcases ho with ho | ho<;>simp [ho,Op.operands]) hy
 exact ⟨rfl,a.eval x,by rcases ho with ho | ho<;>simp [execOp,ho],hx⟩
theorem look_pick {k x x':Operand} (ho:o.op = .pick k x x') (hρ:Ho μ ι w c e a o) {yk y y':Opd} (hk:opd c k=some yk) (hy:opd c x=some y) (hy':opd c x'=some y')
  (hr:(LOp.pick yk y y').run e s=some (v,s')):s'=s∧Looks μ ι w c.P a o v:=by
 have h1:=hρ k yk (by simp [ho,Op.operands]) hk
 have h2:=hρ x y (by simp [ho,Op.operands]) hy
 have h3:=hρ x' y' (by simp [ho,Op.operands]) hy'
 simp only [LOp.run] at hr
 generalize yk.ev e=lk at *
 generalize hak:a.eval k=ak at *
 cases h1<;>simp only [reduceCtorEq] at hr
 cases hr
 rename_i b
 refine ⟨rfl,_,by simp [execOp,ho,hak,asBool];rfl,?_⟩
 cases b
 ·exact h3
 ·exact h2
theorem look_build {t:TypeId} {ps:Array (Nat × Operand)} (ho:o.op = .build t ps) (hρ:Ho μ ι w c e a o) {lo:LOp} (hc:compOp c o=some lo) (hr:lo.run e s=some (v,s')) :
  s'=s∧Looks μ ι w c.P a o v:=by
 simp only [compOp,ho] at hc
 obtain ⟨z,hz,hc⟩:=bind_some hc
 obtain ⟨zv,hzr,hza,_⟩:=zeroC_run (μ:=μ) (ι:=ι) (w:=w) hz
 have hps:∀ x y,x∈ps.toList.map (·.2)→opd c x=some y→Rv μ ι w (y.ev e) (a.eval x):=fun x y hx hy=>hρ x y (by simpa [ho,Op.operands] using hx) hy
 have hmap:(ps.map fun (i,x)=>(i,a.eval x)).toList=maParts a ps.toList:=by simp [maParts]
 cases hu:c.P.underlying t with
 | none=>simp [hu] at hc
 | some ty=>
  rw [hu] at hc
  cases ty<;>simp only [reduceCtorEq] at hc
  case struct fs=>
   obtain ⟨places,hpl,hc⟩:=bind_some hc
   obtain ⟨ls,hls,hc⟩:=bind_some hc
   cases hc
   simp only [LOp.run] at hr
   obtain ⟨cs',hf,hr⟩:=bind_some hr
   cases hr
   obtain ⟨h1,h2⟩:=partsOf_rel (μ:=μ) (ι:=ι) (w:=w) (e:=e) (a:=a) hls hps
   obtain ⟨vs',hv1,hv2⟩:=fill_rel _ _ _ _ _ hza h1 h2 hf
   have hrun:(fs.mapM fun f=>do pure (f.offset,← sizeOf f.type):Sem _).run c.P w = .ok places.toArray w:=by
    rw [Array.mapM_eq_mapM_toList,Sem.run_map,mapM_run (g:=fun f=>do some (f.offset,← szOf c.P f.type)) (fun f b h=>by
     obtain ⟨n,hn,h⟩:=bind_some h
     cases h
     simp [rsz hn]) _ _ hpl]
    rfl
   have hplace:(fun i:Nat=>(places.toArray[i]? : Option (Nat × Nat)))=(fun i:Nat=>places[i]?):=by funext i;simp
   refine ⟨rfl, .agg vs',?_, .agg hv2.1 hv2.2⟩
   simp only [execOp,ho,Instr.build,Sem.run_bind,hzr,Result.andThen_ok,ru hu,hrun]
   simp only [hmap,hplace,hv1]
   simp
  case array n el=>
   obtain ⟨sz,hsz,hc⟩:=bind_some hc
   obtain ⟨ls,hls,hc⟩:=bind_some hc
   cases hc
   simp only [LOp.run] at hr
   obtain ⟨cs',hf,hr⟩:=bind_some hr
   cases hr
   obtain ⟨h1,h2⟩:=partsOf_rel (μ:=μ) (ι:=ι) (w:=w) (e:=e) (a:=a) hls hps
   obtain ⟨vs',hv1,hv2⟩:=fill_rel (place:=fun i=>some (i*sz,sz)) _ _ _ _ _ hza h1 h2 hf
   refine ⟨rfl, .agg vs',?_, .agg hv2.1 hv2.2⟩
   simp only [execOp,ho,Instr.build,Sem.run_bind,hzr,Result.andThen_ok,ru hu,rsz hsz]
   simp only [hmap,hv1]
   simp
theorem look_nilchk {x:Operand} (ho:o.op = .nilCheck x) (hρ:Ho μ ι w c e a o) {y:Opd} (hy:opd c x=some y) (hr:(LOp.nilchk y).run e s=some (v,s')):s'=s∧Looks μ ι w c.P a o v:=by
 have hx:=hρ x y (by simp [ho,Op.operands]) hy
 unfold LOp.run at hr
 dsimp only at hr
 generalize y.ev e=lv at *
 generalize hav:a.eval x=av at *
 cases hx<;>try (cases hr;done)
 case pimm vs hc hi ho1 h=>cases hr;exact ⟨rfl,_,by simp only [execOp,ho,hav];rfl, .pimm vs hc hi ho1 h⟩
 case pref hp=>cases hr;exact ⟨rfl,_,by simp only [execOp,ho,hav];rfl, .pref hp⟩
 case fn f la lb va vb h1 h2 h3 h4=>
  cases f<;>simp only [reduceCtorEq] at hr
  cases hr
  exact ⟨rfl,_,by simp only [execOp,ho,hav];rfl, .fn h1 h2 h3 h4⟩
 case yld hp=>cases hr;exact ⟨rfl,_,by simp only [execOp,ho,hav];rfl, .yld hp⟩
theorem strBin_rel {t:TypeId} {op:BinOp} {x y:ByteArray} (h:strBin op x y=some v):∃ u,(binOp op t (.string x) (.string y)).run c.P w = .ok u w∧Rv μ ι w v u:=by
 cases op<;>simp only [strBin] at h<;>first
  | (cases h;done)
  | (split at h;cases h;rename_i h0;cases h;refine ⟨_,by simp only [binOp,Op.stringOp];rw [if_neg h0];rfl,by constructor⟩;done)
  | (cases h;refine ⟨_,by simp only [binOp,Op.stringOp];rfl,by constructor⟩;done)
theorem binLV_rel {t:TypeId} {op:BinOp} {x y:LV} {u v':Value} (hx:Rv μ ι w x u) (hy:Rv μ ι w y v') (h:binLV op x y=some v) :
  ∃ r,(binOp op t u v').run c.P w = .ok r w∧Rv μ ι w v r∧∀ ox oy,(eqGuard op t ox oy u v').run c.P w = .ok () w:=by
 cases hx<;>simp only [binLV,reduceCtorEq] at h<;>cases hy<;>simp only [binLV,reduceCtorEq] at h
 ·rename_i k n k' n'
  have hg:∀ ox oy,(eqGuard op t ox oy (.int k n) (.int k' n')).run c.P w = .ok () w:=fun _ _=>by cases op<;>simp [eqGuard]
  split at h
  ·split at h
   ·cases h
   ·rename_i h0;cases h
    exact ⟨_,by simp only [binOp,Op.shift];rw [if_neg h0];rfl, .int _ _,hg⟩
  ·split at h
   ·cases h
   ·rename_i h0;cases h
    exact ⟨_,by simp only [binOp,Op.shift];rw [if_neg h0];rfl, .int _ _,hg⟩
  ·rename_i h1 h2
   split at h
   ·rename_i e;subst e
    obtain ⟨r,hr1,hr2⟩:=intBin_rel (P:=c.P) (w:=w) (μ:=μ) (ι:=ι) (t:=t) h ⟨h1,h2⟩
    exact ⟨r,hr1,hr2,hg⟩
   ·cases h
 ·obtain ⟨r,hr1,hr2⟩:=strBin_rel (c:=c) (w:=w) (μ:=μ) (ι:=ι) (t:=t) h
  exact ⟨r,hr1,hr2,fun _ _=>by cases op<;>simp [eqGuard]⟩
theorem look_bin {op:BinOp} {t t':TypeId} {x y:Operand} (ho:o.op = .binOp op t x y t') (hρ:Ho μ ι w c e a o) {lo:LOp} (hc:compOp c o=some lo) (hr:lo.run e s=some (v,s')) :
  s'=s∧Looks μ ι w c.P a o v:=by
 simp only [compOp,ho] at hc
 obtain ⟨lx,hlx,hc⟩:=bind_some hc
 obtain ⟨ly,hly,hc⟩:=bind_some hc
 have hx:=hρ x lx (by simp [ho,Op.operands]) hlx
 have hy:=hρ y ly (by simp [ho,Op.operands]) hly
 have key:(lo = .bin op lx ly)→s'=s∧Looks μ ι w c.P a o v:=by
  rintro rfl
  simp only [LOp.run] at hr
  obtain ⟨v',h1,h2⟩:=bind_some hr
  cases h2
  obtain ⟨r,hr1,hr2,hg⟩:=binLV_rel (c:=c) (t:=t) hx hy h1
  refine ⟨rfl,r,?_,hr2⟩
  simp [execOp,ho,hg,hr1]
 have key2:∀ et,isArith op=false→eqTy c.P t=some et→(∀ k,c.P.underlying t≠some (.int k))→c.P.underlying t≠some .string→lo = .eq (isNeq op) et lx ly→s'=s∧Looks μ ι w c.P a o v:=by
  rintro et ha het hni hns rfl
  simp only [LOp.run] at hr
  obtain ⟨b,h1,h2⟩:=bind_some hr
  cases h2
  have hop:op = .eql∨op = .neq:=by cases op<;>simp [isArith] at ha ⊢
  have:=eq_rel (c:=c) hx hy het h1 x y op hop hni hns
  refine ⟨rfl,_,by simp only [Sem.run_bind] at this;simp only [execOp,ho,Sem.run_bind];rw [this];rfl,?_⟩
  rcases hop with rfl | rfl<;>exact .bool _
 cases hu:c.P.underlying t with
 | none=>
  rw [hu] at hc
  simp only at hc
  split at hc
  ·cases hc
  ·rename_i hna
   obtain ⟨et,het,hc⟩:=bind_some hc
   split at hc
   ·cases hc;cases hr
   cases hc
   exact key2 et (by simpa using hna) het (by simp [hu]) (by simp [hu]) rfl
 | some ty=>
  rw [hu] at hc
  cases ty<;>simp only at hc
  case int=>cases hc;exact key rfl
  case string=>cases hc;exact key rfl
  all_goals
   split at hc
   ·cases hc
   ·rename_i hna
    obtain ⟨et,het,hc⟩:=bind_some hc
    split at hc
    ·cases hc;cases hr
    cases hc
    exact key2 et (by simpa using hna) het (by simp [hu]) (by simp [hu]) rfl
theorem look_un {op:UnOp} {t:TypeId} {x:Operand} (ho:o.op = .unOp op t x) (hρ:Ho μ ι w c e a o) {y:Opd} (hy:opd c x=some y) (hr:(LOp.un op y).run e s=some (v,s')):s'=s∧Looks μ ι w c.P a o v:=by
 have hx:=hρ x y (by simp [ho,Op.operands]) hy
 simp only [LOp.run] at hr
 generalize y.ev e=lv at *
 generalize hav:a.eval x=av at *
 obtain ⟨v',h1,h2⟩:=bind_some hr
 cases h2
 cases hx<;>simp only [unLV,reduceCtorEq] at h1
 ·cases op<;>simp only [reduceCtorEq] at h1
  cases h1
  exact ⟨rfl,_,by simp only [execOp,ho,hav,Op.unary];rfl, .bool _⟩
 ·cases op<;>simp only [reduceCtorEq] at h1
  cases h1
  exact ⟨rfl,_,by simp only [execOp,ho,hav,Op.unary,Op.intArith];rfl, .int _ _⟩
end
end Go.Pv
end
section
set_option linter.unusedSimpArgs false
namespace Go.Pv
open Go Go.RowKit
section
variable {w:World} {w0:Bs} {μ:Mu} {ι:Io} {δ:Nat→Prop} {s s':St} {cmp:Nat→LCode→Code→Prop} {c:Ctx} {e:Env} {a:Act} {o:Oper} {v:LV}
theorem look_convInt {t dst:TypeId} {x:Operand} (ho:o.op = .convert t dst x) (hρ:Ho μ ι w c e a o) {k:IntKind} (hk:c.P.underlying dst=some (.int k)) (hts:∃ d,c.P.underlying t=some d)
  {y:Opd} (hy:opd c x=some y) (hr:(LOp.convInt k y).run e s=some (v,s')):s'=s∧Looks μ ι w c.P a o v:=by
 have hx:=hρ x y (by simp [ho,Op.operands]) hy
 obtain ⟨d,hd⟩:=hts
 unfold LOp.run at hr
 dsimp only at hr
 generalize y.ev e=lv at *
 generalize hav:a.eval x=av at *
 cases hx<;>try (cases hr;done)
 cases hr
 refine ⟨rfl,_,by simp only [execOp,ho,hav,convert,Sem.run_bind,ru hd,ru hk,Result.andThen_ok,Conv.intToInt];rfl, .int _ _⟩
theorem look_convSame {t dst:TypeId} {x:Operand} (ho:o.op = .convert t dst x) (hρ:Ho μ ι w c e a o) (hk:c.P.underlying dst=some .string) (hts:∃ d,c.P.underlying t=some d)
  {y:Opd} (hy:opd c x=some y) (hr:(LOp.convSame y).run e s=some (v,s')):s'=s∧Looks μ ι w c.P a o v:=by
 have hx:=hρ x y (by simp [ho,Op.operands]) hy
 obtain ⟨d,hd⟩:=hts
 unfold LOp.run at hr
 dsimp only at hr
 generalize y.ev e=lv at *
 generalize hav:a.eval x=av at *
 cases hx<;>try (cases hr;done)
 cases hr
 refine ⟨rfl,_,by simp only [execOp,ho,hav,convert,Sem.run_bind,ru hd,ru hk,Result.andThen_ok];rfl, .str _⟩
theorem look_mkfn {f:Fn} {xs ys:Array Operand} (ho:o.op = .makeFunc f xs ys) (hρ:Ho μ ι w c e a o) {lx ly:List Opd} (hx:opds c xs.toList=some lx) (hy:opds c ys.toList=some ly)
  (hr:(LOp.mkfn f lx ly).run e s=some (v,s')):s'=s∧Looks μ ι w c.P a o v:=by
 cases hr
 have hops:o.op.operands.toList=xs.toList++ys.toList:=by rw [ho];simp [Op.operands]
 have h1:=opds_rel (μ:=μ) (ι:=ι) (w:=w) (e:=e) (a:=a) hx (fun x y hx hy=>hρ x y (by rw [hops];exact List.mem_append_left _ hx) hy)
 have h2:=opds_rel (μ:=μ) (ι:=ι) (w:=w) (e:=e) (a:=a) hy (fun x y hx hy=>hρ x y (by rw [hops];exact List.mem_append_right _ hx) hy)
 refine ⟨rfl, .func f (xs.map a.eval) (ys.map a.eval),by simp [execOp,ho,Instr.makeFunc],?_⟩
 have e1:(xs.toList.map a.eval).toArray=xs.map a.eval:=by apply Array.ext';simp
 have e2:(ys.toList.map a.eval).toArray=ys.map a.eval:=by apply Array.ext';simp
 rw [e1] at h1
 rw [e2] at h2
 exact .fn h1.1 h2.1 h1.2 h2.2
theorem look_faddr {st:TypeId} {x:Operand} {f:Nat} (ho:o.op = .fieldAddr st x f) (hρ:Ho μ ι w c e a o) {fs:Array Field} (hu:c.P.underlying st=some (.struct fs)) {fl:Field} (hf:fs[f]? = some fl)
  {n:Nat} (hn:szOf c.P fl.type=some n) (h0:n≠0) {y:Opd} (hy:opd c x=some y) (hr:(LOp.faddr fl.offset y).run e s=some (v,s')):s'=s∧Looks μ ι w c.P a o v:=by
 have hx:=hρ x y (by simp [ho,Op.operands]) hy
 unfold LOp.run at hr
 dsimp only at hr
 generalize y.ev e=lv at *
 generalize hav:a.eval x=av at *
 cases hx<;>try (cases hr;done)
 case pimm vs hc hi ho1 h=>
  cases hr
  refine ⟨rfl,_,by simp only [execOp,ho,hav,Instr.fieldAt,Sem.run_bind,ru hu,Result.andThen_ok,hf,Instr.sureAddr,Sem.run_pure,fieldPlace,rsz hn,h0,if_false,add_mk];rfl,?_⟩
  rw [Nat.add_assoc]
  exact .pimm vs hc hi ho1 h
 case pref hp=>
  cases hr
  refine ⟨rfl,_,by simp only [execOp,ho,hav,Instr.fieldAt,Sem.run_bind,ru hu,Result.andThen_ok,hf,Instr.sureAddr,Sem.run_pure,fieldPlace,rsz hn,h0,if_false,add_mk];rfl,?_⟩
  rw [Nat.add_assoc]
  exact .pref hp
theorem look_field {st:TypeId} {x:Operand} {f:Nat} (ho:o.op = .field st x f) (hρ:Ho μ ι w c e a o) {fs:Array Field} (hu:c.P.underlying st=some (.struct fs)) {fl:Field} (hf:fs[f]? = some fl)
  {n:Option Nat} (hn:aggOf c.P fl.type=some n) {y:Opd} (hy:opd c x=some y) (hr:(LOp.field fl.offset n y).run e s=some (v,s')):s'=s∧Looks μ ι w c.P a o v:=by
 have hx:=hρ x y (by simp [ho,Op.operands]) hy
 unfold LOp.run at hr
 dsimp only at hr
 generalize y.ev e=lv at *
 generalize hav:a.eval x=av at *
 cases hx<;>try (cases hr;done)
 case agg hl h=>
  obtain ⟨v',h1,h2⟩:=bind_some hr
  cases h2
  obtain ⟨u,hu1,hu2⟩:=part_rel (w:=w) hn hl h h1
  exact ⟨rfl,u,by simp [execOp,ho,hav,Instr.field,ru hu,hf,asAgg,hu1],hu2⟩
theorem look_iaddr {t:TypeId} {x i:Operand} (ho:o.op = .indexAddr t x i) (hρ:Ho μ ι w c e a o) {el:TypeId} (hu:c.P.underlying t=some (.slice el)) {n:Nat} (hn:szOf c.P el=some n)
  {y yi:Opd} (hy:opd c x=some y) (hyi:opd c i=some yi) (hr:(LOp.iaddr n y yi).run e s=some (v,s')):s'=s∧Looks μ ι w c.P a o v:=by
 have hx:=hρ x y (by simp [ho,Op.operands]) hy
 have hxi:=hρ i yi (by simp [ho,Op.operands]) hyi
 unfold LOp.run at hr
 dsimp only at hr
 generalize y.ev e=lv at *
 generalize yi.ev e=li at *
 generalize hav:a.eval x=av at *
 generalize hai:a.eval i=ai at *
 cases hx<;>try (cases hr;done)
 case simm vs hc hi ho1 h hlc=>
  obtain ⟨k,h1,h2⟩:=bind_some hr
  cases h2
  obtain ⟨kd,z,rfl,hz,hz0,hz1,rfl⟩:=idxOf_rel (P:=c.P) (w:=w) hxi h1
  refine ⟨rfl,_,by simp only [execOp,ho,hav,hai,Instr.indexAt,Sem.run_bind,hz,ru hu,Result.andThen_ok,Sem.run_pure,Sem.run_ite,hz0,hz1,and_self,if_true,rsz hn,add_mk];rfl,?_⟩
  exact .pimm vs hc hi ho1 h
 case sref id off len esz cap p off' hp hcap hlc had=>
  obtain ⟨k,h1,h2⟩:=bind_some hr
  split at h2
  ·cases h2
   obtain ⟨kd,z,rfl,hz,hz0,hz1,rfl⟩:=idxOf_rel (P:=c.P) (w:=w) hxi h1
   refine ⟨rfl,_,by simp only [execOp,ho,hav,hai,Instr.indexAt,Sem.run_bind,hz,ru hu,Result.andThen_ok,Sem.run_pure,Sem.run_ite,hz0,hz1,and_self,if_true,rsz hn,add_mk];rfl,?_⟩
   rw [had (by omega),Nat.add_assoc]
   exact .pref hp
  ·cases h2
theorem look_iaddrArr {t:TypeId} {x i:Operand} (ho:o.op = .indexAddr t x i) (hρ:Ho μ ι w c e a o) {el:TypeId} {len:Nat} (hu:c.P.underlying t=some (.array len el)) {n:Nat} (hn:szOf c.P el=some n)
  {y yi:Opd} (hy:opd c x=some y) (hyi:opd c i=some yi) (hr:(LOp.iaddrArr n len y yi).run e s=some (v,s')):s'=s∧Looks μ ι w c.P a o v:=by
 have hx:=hρ x y (by simp [ho,Op.operands]) hy
 have hxi:=hρ i yi (by simp [ho,Op.operands]) hyi
 unfold LOp.run at hr
 dsimp only at hr
 generalize y.ev e=lv at *
 generalize yi.ev e=li at *
 generalize hav:a.eval x=av at *
 generalize hai:a.eval i=ai at *
 cases hx<;>try (cases hr;done)
 case pimm vs hc hi ho1 h=>
  obtain ⟨k,h1,h2⟩:=bind_some hr
  cases h2
  obtain ⟨kd,z,rfl,hz,hz0,hz1,rfl⟩:=idxOf_rel (P:=c.P) (w:=w) hxi h1
  refine ⟨rfl,_,by simp only [execOp,ho,hav,hai,Instr.indexAt,Instr.sureAddr,Sem.run_bind,hz,ru hu,Result.andThen_ok,Sem.run_pure,Sem.run_ite,hz0,hz1,and_self,if_true,rsz hn,add_mk];rfl,?_⟩
  rw [Nat.add_assoc]
  exact .pimm vs hc hi ho1 h
 case pref hp=>
  obtain ⟨k,h1,h2⟩:=bind_some hr
  cases h2
  obtain ⟨kd,z,rfl,hz,hz0,hz1,rfl⟩:=idxOf_rel (P:=c.P) (w:=w) hxi h1
  refine ⟨rfl,_,by simp only [execOp,ho,hav,hai,Instr.indexAt,Instr.sureAddr,Sem.run_bind,hz,ru hu,Result.andThen_ok,Sem.run_pure,Sem.run_ite,hz0,hz1,and_self,if_true,rsz hn,add_mk];rfl,?_⟩
  rw [Nat.add_assoc]
  exact .pref hp
theorem look_indexArr {t:TypeId} {x i:Operand} (ho:o.op = .index t x i) (hρ:Ho μ ι w c e a o) {el:TypeId} {len:Nat} (hu:c.P.underlying t=some (.array len el)) {n:Nat} (hn:szOf c.P el=some n)
  {ag:Option Nat} (hag:aggOf c.P el=some ag) {y yi:Opd} (hy:opd c x=some y) (hyi:opd c i=some yi) (hr:(LOp.indexArr n len ag y yi).run e s=some (v,s')):s'=s∧Looks μ ι w c.P a o v:=by
 have hx:=hρ x y (by simp [ho,Op.operands]) hy
 have hxi:=hρ i yi (by simp [ho,Op.operands]) hyi
 unfold LOp.run at hr
 dsimp only at hr
 generalize y.ev e=lv at *
 generalize yi.ev e=li at *
 generalize hav:a.eval x=av at *
 generalize hai:a.eval i=ai at *
 cases hx<;>try (cases hr;done)
 case agg hl h=>
  obtain ⟨k,h1,h2⟩:=bind_some hr
  obtain ⟨v',h3,h4⟩:=bind_some h2
  cases h4
  obtain ⟨kd,z,rfl,hz,hz0,hz1,rfl⟩:=idxOf_rel (P:=c.P) (w:=w) hxi h1
  obtain ⟨u,hu1,hu2⟩:=part_rel (w:=w) hag hl h h3
  refine ⟨rfl,u,?_,hu2⟩
  simp only [execOp,ho,hav,hai,Instr.index,Sem.run_bind,hz,ru hu,Result.andThen_ok,Sem.run_ite,hz0,hz1,and_self,if_true,rsz hn,hu1]
  rfl
theorem look_indexStr {t:TypeId} {x i:Operand} (ho:o.op = .index t x i) (hρ:Ho μ ι w c e a o) (hu:c.P.underlying t=some .string)
  {y yi:Opd} (hy:opd c x=some y) (hyi:opd c i=some yi) (hr:(LOp.indexStr y yi).run e s=some (v,s')):s'=s∧Looks μ ι w c.P a o v:=by
 have hx:=hρ x y (by simp [ho,Op.operands]) hy
 have hxi:=hρ i yi (by simp [ho,Op.operands]) hyi
 unfold LOp.run at hr
 dsimp only at hr
 generalize y.ev e=lv at *
 generalize yi.ev e=li at *
 generalize hav:a.eval x=av at *
 generalize hai:a.eval i=ai at *
 cases hx<;>try (cases hr;done)
 case str b=>
  obtain ⟨k,h1,h2⟩:=bind_some hr
  cases h2
  obtain ⟨kd,z,rfl,hz,hz0,hz1,rfl⟩:=idxOf_rel (P:=c.P) (w:=w) hxi h1
  have hlt:z.toNat<b.size:=by omega
  have hb:b[z.toNat]? = some (b.data.getD z.toNat 0):=by
   rw [show b[z.toNat]? = some b[z.toNat] from by simp [hlt]]
   congr 1
   have:z.toNat<b.data.size:=hlt
   simp only [Array.getD_eq_getD_getElem?,this,getElem?_pos,Option.getD_some]
   rfl
  refine ⟨rfl, .int .u8 (b.data.getD z.toNat 0).toNat,?_, .int _ _⟩
  simp only [execOp,ho,hav,hai,Instr.index,Sem.run_bind,hz,ru hu,Result.andThen_ok,hz0,if_true,hb]
  rfl
theorem look_ext {x:Operand} {i:Nat} (ho:o.op = .extract x i) (hρ:Ho μ ι w c e a o) {y:Opd} (hy:opd c x=some y) (hr:(LOp.ext y i).run e s=some (v,s')):s'=s∧Looks μ ι w c.P a o v:=by
 have hx:=hρ x y (by simp [ho,Op.operands]) hy
 unfold LOp.run at hr
 dsimp only at hr
 generalize y.ev e=lv at *
 generalize hav:a.eval x=av at *
 cases hx<;>try (cases hr;done)
 case tup cs vs hl h=>
  obtain ⟨v',h1,h2⟩:=bind_some hr
  cases h2
  obtain ⟨hlt,rfl⟩:=List.getElem?_eq_some_iff.1 h1
  have hlt':i<vs.size:=by rw [hl];exact hlt
  have:=h i hlt
  refine ⟨rfl,vs[i],by simp [execOp,ho,hav,Instr.extract,hlt'],?_⟩
  simpa [List.getD_eq_getElem?_getD,Array.getD_eq_getD_getElem?,hlt,hlt'] using this
theorem bndOf_rel {d max:Nat} {lo:Option Operand} {llo:Option Opd} {k:Nat} (hlo:opdO c lo=some llo) (hρ:∀ x y,lo=some x→opd c x=some y→Rv μ ι w (y.ev e) (a.eval x))
  (h:bndOf d max (llo.map (·.ev e))=some k):(lo=none∧k=d)∨(∃ x kd z,lo=some x∧a.eval x = .int kd z∧0≤z∧z≤max∧k=z.toNat):=by
 cases lo with
 | none=>cases hlo;cases h;exact .inl ⟨rfl,rfl⟩
 | some x=>
  obtain ⟨y,hy,rfl⟩:=map_some' hlo
  have hx:=hρ x y rfl hy
  simp only [Option.map_some] at h
  generalize y.ev e=lv at *
  generalize hav:a.eval x=av at *
  cases hx<;>simp only [bndOf,reduceCtorEq] at h
  split at h
  ·rename_i hb;cases h;exact .inr ⟨x,_,_,rfl,hav,hb.1,hb.2,rfl⟩
  ·cases h
theorem sliceBounds_run {isS:Bool} {len cap:Nat} {lo hi:Option Operand} {h l:Nat}
  (hh:(hi=none∧h=len)∨(∃ x kd z,hi=some x∧a.eval x = .int kd z∧0≤z∧z≤len∧h=z.toNat)) (hlc:len≤cap)
  (hl:(lo=none∧l=0)∨(∃ x kd z,lo=some x∧a.eval x = .int kd z∧0≤z∧z≤h∧l=z.toNat)) :
  (Instr.sliceBounds isS len cap (lo.map a.eval) (hi.map a.eval) none).run c.P w = .ok (l,h,cap) w∧l≤h∧h≤len:=by
 have hcap:∀ z:Int,z≤len→z≤cap:=fun z hz=>by omega
 rcases hh with ⟨rfl,rfl⟩ | ⟨x,kd,z,rfl,hx,hz0,hz1,rfl⟩<;>rcases hl with ⟨rfl,rfl⟩ | ⟨x',kd',z',rfl,hx',hz0',hz1',rfl⟩
 ·simp [Instr.sliceBounds]
 ·refine ⟨?_,by omega,by omega⟩
  simp [Instr.sliceBounds,Instr.sliceBound,hx',asIntOf,hz0',hz1']
 ·refine ⟨?_,by omega,by omega⟩
  simp [Instr.sliceBounds,Instr.sliceBound,hx,asIntOf,hz0,hcap z hz1]
 ·refine ⟨?_,by omega,by omega⟩
  have h1:z'≤max z 0:=by omega
  simp [Instr.sliceBounds,Instr.sliceBound,hx,hx',asIntOf,hz0,hcap z hz1,hz0',h1]
end
end Go.Pv
end
section
set_option linter.unusedSimpArgs false
namespace Go.Pv
open Go Go.RowKit
section
variable {w:World} {w0:Bs} {μ:Mu} {ι:Io} {δ:Nat→Prop} {s s':St} {cmp:Nat→LCode→Code→Prop} {c:Ctx} {e:Env} {a:Act} {o:Oper} {v:LV}
theorem look_slice {t:TypeId} {x:Operand} {lo hi:Option Operand} (ho:o.op = .slice t x lo hi none) (hρ:Ho μ ι w c e a o) {el:TypeId} (hu:c.P.underlying t=some (.slice el)) {n:Nat} (hn:szOf c.P el=some n)
  {y:Opd} {llo lhi:Option Opd} (hy:opd c x=some y) (hlo:opdO c lo=some llo) (hhi:opdO c hi=some lhi) (hr:(LOp.slice n y llo lhi).run e s=some (v,s')):s'=s∧Looks μ ι w c.P a o v:=by
 have hx:=hρ x y (by simp [ho,Op.operands]) hy
 have hρl:∀ x y,lo=some x→opd c x=some y→Rv μ ι w (y.ev e) (a.eval x):=fun x y h hy=>hρ x y (by subst h;simp [ho,Op.operands]) hy
 have hρh:∀ x y,hi=some x→opd c x=some y→Rv μ ι w (y.ev e) (a.eval x):=fun x y h hy=>hρ x y (by subst h;simp [ho,Op.operands]) hy
 unfold LOp.run at hr
 dsimp only at hr
 generalize y.ev e=lv at *
 generalize hav:a.eval x=av at *
 have hx':=hx
 cases hx<;>try (cases hr;done)
 case nils=>
  obtain ⟨h,h1,hr⟩:=bind_some hr
  obtain ⟨l,h2,hr⟩:=bind_some hr
  split at hr
  ·rename_i h0
   cases hr
   have hb1:=bndOf_rel (μ:=μ) (ι:=ι) (w:=w) hhi hρh h1
   have hb2:=bndOf_rel (μ:=μ) (ι:=ι) (w:=w) hlo hρl h2
   obtain ⟨hrun,hle1,hle2⟩:=sliceBounds_run (c:=c) (w:=w) (isS:=true) (cap:=0) hb1 (Nat.le_refl _) hb2
   obtain ⟨rfl,rfl⟩:=h0
   refine ⟨rfl,_,by simp only [execOp,ho,hav,Instr.sliceAt,Instr.slice,Sem.run_bind,ru hu,Result.andThen_ok,Option.map_none,hrun,rsz hn];rfl,?_⟩
   simp only [Nat.sub_zero,if_true]
   exact .nils
  ·cases hr
 case zs=>
  obtain ⟨h,h1,hr⟩:=bind_some hr
  obtain ⟨l,h2,hr⟩:=bind_some hr
  split at hr
  ·rename_i h0
   cases hr
   have hb1:=bndOf_rel (μ:=μ) (ι:=ι) (w:=w) hhi hρh h1
   have hb2:=bndOf_rel (μ:=μ) (ι:=ι) (w:=w) hlo hρl h2
   obtain ⟨hrun,hle1,hle2⟩:=sliceBounds_run (c:=c) (w:=w) (isS:=true) (cap:=0) hb1 (Nat.le_refl _) hb2
   obtain ⟨rfl,rfl⟩:=h0
   refine ⟨rfl,_,by simp only [execOp,ho,hav,Instr.sliceAt,Instr.slice,Sem.run_bind,ru hu,Result.andThen_ok,Option.map_none,hrun,rsz hn];rfl,?_⟩
   simp only [Nat.sub_zero,if_true]
   exact .zs _
  ·cases hr
 case simm cs len b off cap vs hc hi' ho1 h hlc=>
  obtain ⟨hh,h1,hr⟩:=bind_some hr
  obtain ⟨ll,h2,hr⟩:=bind_some hr
  split at hr
  ·rename_i hcl
   cases hr
   have hb1:=bndOf_rel (μ:=μ) (ι:=ι) (w:=w) hhi hρh h1
   have hb2:=bndOf_rel (μ:=μ) (ι:=ι) (w:=w) hlo hρl h2
   obtain ⟨hrun,hle1,hle2⟩:=sliceBounds_run (c:=c) (w:=w) (isS:=true) (cap:=cap) hb1 hlc hb2
   refine ⟨rfl,_,by simp only [execOp,ho,hav,Instr.sliceAt,Instr.slice,Sem.run_bind,ru hu,Result.andThen_ok,Option.map_none,hrun,rsz hn];rfl,?_⟩
   have hlen:((cs.drop (ll*n)).take ((hh - ll)*n)).length=(hh - ll)*n:=by
    have:hh*n≤len*n:=Nat.mul_le_mul_right n hle2
    have h3:(hh - ll)*n=hh*n - ll*n:=Nat.sub_mul hh ll n
    simp;omega
   have hin:∀ i,i<(hh - ll)*n→ll*n+i<cs.length:=fun i hi=>by
    have:hh*n≤len*n:=Nat.mul_le_mul_right n hle2
    have h3:(hh - ll)*n=hh*n - ll*n:=Nat.sub_mul hh ll n
    have h4:ll*n≤hh*n:=Nat.mul_le_mul_right n hle1
    omega
   by_cases hcap:cap=ll
   ·rw [if_pos hcap]
    have h0:hh - ll=0:=by omega
    rw [h0] at hlen ⊢
    exact .simm (fun _=>undef) (fun i hi=>by rw [hlen] at hi;omega) (fun i hi=>by rw [hlen] at hi;omega) (fun i hi=>by rw [hlen] at hi;omega) (fun i hi=>by rw [hlen] at hi;omega) (Nat.zero_le _)
   ·rw [if_neg hcap]
    simp only [Option.map_some,add_mk]
    refine .simm (fun i=>vs (ll*n+i)) (fun i hi=>?_) (fun i hi=>?_) (fun i hi=>?_) (fun i hi=>?_) (by omega)<;>rw [hlen] at hi
    ·rw [Nat.add_assoc];exact hc _ (hin i hi)
    ·rw [Nat.add_assoc];exact hi' _ (hin i hi)
    ·exact ho1 _ (hin i hi)
    ·rw [getD_drop_take _ _ _ _ hi];exact h _ (hin i hi)
  ·cases hr
 case sref id off len esz cap p off' hp hcap hlc had=>
  obtain ⟨hh,h1,hr⟩:=bind_some hr
  obtain ⟨ll,h2,hr⟩:=bind_some hr
  split at hr
  ·rename_i hes
   subst hes
   cases hr
   have hb1:=bndOf_rel (μ:=μ) (ι:=ι) (w:=w) hhi hρh h1
   have hb2:=bndOf_rel (μ:=μ) (ι:=ι) (w:=w) hlo hρl h2
   obtain ⟨hrun,hle1,hle2⟩:=sliceBounds_run (c:=c) (w:=w) (isS:=true) (cap:=cap) hb1 hlc hb2
   have hm:(cap - ll)*esz=cap*esz - ll*esz:=Nat.sub_mul cap ll esz
   have hm2:ll*esz≤cap*esz:=Nat.mul_le_mul_right esz (by omega)
   refine ⟨rfl,_,by simp only [execOp,ho,hav,Instr.sliceAt,Instr.slice,Sem.run_bind,ru hu,Result.andThen_ok,Option.map_none,hrun,rsz hn];rfl,?_⟩
   by_cases hc:cap=ll
   ·rw [if_pos hc]
    exact .sref hp (by omega) (by omega) (fun h=>absurd (by omega) h)
   ·rw [if_neg hc]
    simp only [Option.map_some,add_mk]
    rw [Nat.add_assoc]
    exact .sref hp (by omega) (by omega) (fun _=>by rw [had (by omega)])
  ·cases hr
theorem look_sliceStr {t:TypeId} {x:Operand} {lo hi:Option Operand} (ho:o.op = .slice t x lo hi none) (hρ:Ho μ ι w c e a o) (hu:c.P.underlying t=some .string)
  {y:Opd} {llo lhi:Option Opd} (hy:opd c x=some y) (hlo:opdO c lo=some llo) (hhi:opdO c hi=some lhi) (hr:(LOp.sliceStr y llo lhi).run e s=some (v,s')):s'=s∧Looks μ ι w c.P a o v:=by
 have hx:=hρ x y (by simp [ho,Op.operands]) hy
 have hρl:∀ x y,lo=some x→opd c x=some y→Rv μ ι w (y.ev e) (a.eval x):=fun x y h hy=>hρ x y (by subst h;simp [ho,Op.operands]) hy
 have hρh:∀ x y,hi=some x→opd c x=some y→Rv μ ι w (y.ev e) (a.eval x):=fun x y h hy=>hρ x y (by subst h;simp [ho,Op.operands]) hy
 unfold LOp.run at hr
 dsimp only at hr
 generalize y.ev e=lv at *
 generalize hav:a.eval x=av at *
 cases hx<;>try (cases hr;done)
 case str b=>
  obtain ⟨h,h1,hr⟩:=bind_some hr
  obtain ⟨l,h2,hr⟩:=bind_some hr
  cases hr
  have hb1:=bndOf_rel (μ:=μ) (ι:=ι) (w:=w) hhi hρh h1
  have hb2:=bndOf_rel (μ:=μ) (ι:=ι) (w:=w) hlo hρl h2
  obtain ⟨hrun,hle1,hle2⟩:=sliceBounds_run (c:=c) (w:=w) (isS:=false) (cap:=b.size) hb1 (Nat.le_refl _) hb2
  exact ⟨rfl,_,by simp only [execOp,ho,hav,Instr.sliceAt,Instr.slice,Sem.run_bind,ru hu,Result.andThen_ok,Option.map_none,Option.isSome_none,Bool.false_eq_true,if_false,Sem.run_pure,hrun], .str _⟩
theorem look_sliceArr {cmp:Nat→LCode→Code→Prop} {w0:Bs} {δ:Nat→Prop} {t:TypeId} {x:Operand} {lo hi:Option Operand} (ho:o.op = .slice t x lo hi none) (I:Inv cmp w0 μ ι δ s w) (hρ:Ho μ ι w c e a o) {el:TypeId} {n:Nat} (hu:c.P.underlying t=some (.array n el)) {sz:Nat} (hn:szOf c.P el=some sz)
  {y:Opd} {llo lhi:Option Opd} (hy:opd c x=some y) (hlo:opdO c lo=some llo) (hhi:opdO c hi=some lhi) (hr:(LOp.sliceArr sz n y llo lhi).run e s=some (v,s')):s'=s∧Looks μ ι w c.P a o v:=by
 have hx:=hρ x y (by simp [ho,Op.operands]) hy
 have hρl:∀ x y,lo=some x→opd c x=some y→Rv μ ι w (y.ev e) (a.eval x):=fun x y h hy=>hρ x y (by subst h;simp [ho,Op.operands]) hy
 have hρh:∀ x y,hi=some x→opd c x=some y→Rv μ ι w (y.ev e) (a.eval x):=fun x y h hy=>hρ x y (by subst h;simp [ho,Op.operands]) hy
 unfold LOp.run at hr
 dsimp only at hr
 generalize y.ev e=lv at *
 generalize hav:a.eval x=av at *
 cases hx<;>try (cases hr;done)
 case pref id off p hp=>
  obtain ⟨hh,h1,hr⟩:=bind_some hr
  obtain ⟨ll,h2,hr⟩:=bind_some hr
  split at hr
  ·rename_i cs hg
   split at hr
   ·rename_i hin
    cases hr
    have hb1:=bndOf_rel (μ:=μ) (ι:=ι) (w:=w) hhi hρh h1
    have hb2:=bndOf_rel (μ:=μ) (ι:=ι) (w:=w) hlo hρl h2
    obtain ⟨hrun,hle1,hle2⟩:=sliceBounds_run (c:=c) (w:=w) (isS:=false) (cap:=n) hb1 (Nat.le_refl _) hb2
    obtain ⟨_,k1,_⟩:=I.blk id _ p hg hp
    have hm:(n - ll)*sz=n*sz - ll*sz:=Nat.sub_mul n ll sz
    have hm2:ll*sz≤n*sz:=Nat.mul_le_mul_right sz (by omega)
    refine ⟨rfl,_,by simp only [execOp,ho,hav,Instr.sliceAt,Instr.sureAddr,Sem.run_bind,ru hu,Result.andThen_ok,Option.map_none,Sem.run_pure,hrun,rsz hn];rfl,?_⟩
    by_cases hc:n=ll
    ·rw [if_pos hc]
     exact .sref hp (by omega) (by omega) (fun h=>absurd (by omega) h)
    ·rw [if_neg hc]
     simp only [add_mk]
     rw [Nat.add_assoc]
     exact .sref hp (by omega) (by omega) (fun _=>rfl)
   ·cases hr
  ·cases hr
theorem look_lenSl {t:TypeId} {x:Operand} (ho:o.op = .call { callee:=.builtin .len,args:=#[x],argTypes:=#[t] }) (hρ:Ho μ ι w c e a o) {el:TypeId} (hu:c.P.underlying t=some (.slice el))
  {y:Opd} (hy:opd c x=some y) (hr:(LOp.lenSl y).run e s=some (v,s')):s'=s∧Looks μ ι w c.P a o v:=by
 have hx:=hρ x y (by simp [ho,Op.operands,Call.operands]) hy
 unfold LOp.run at hr
 dsimp only at hr
 generalize y.ev e=lv at *
 generalize hav:a.eval x=av at *
 obtain ⟨n,h1,hr⟩:=bind_some hr
 cases hr
 have h2:∃ b k,av = .slice b n k:=by
  cases hx<;>simp only [slLen,reduceCtorEq] at h1<;>cases h1<;>exact ⟨_,_,rfl⟩
 obtain ⟨b,k,rfl⟩:=h2
 exact ⟨rfl,_,by simp only [execOp,ho,resolve,Sem.run_bind,Sem.run_pure,Result.andThen_ok,invoke,builtin,List.map_toArray,List.map_cons,List.map_nil,hav];simp [Builtin.len_,ru hu];rfl, .int _ _⟩
theorem look_lenStr {t:TypeId} {x:Operand} (ho:o.op = .call { callee:=.builtin .len,args:=#[x],argTypes:=#[t] }) (hρ:Ho μ ι w c e a o) (hu:c.P.underlying t=some .string)
  {y:Opd} (hy:opd c x=some y) (hr:(LOp.lenStr y).run e s=some (v,s')):s'=s∧Looks μ ι w c.P a o v:=by
 have hx:=hρ x y (by simp [ho,Op.operands,Call.operands]) hy
 unfold LOp.run at hr
 dsimp only at hr
 generalize y.ev e=lv at *
 generalize hav:a.eval x=av at *
 cases hx<;>try (cases hr;done)
 cases hr
 exact ⟨rfl,_,by simp only [execOp,ho,resolve,Sem.run_bind,Sem.run_pure,Result.andThen_ok,invoke,builtin,List.map_toArray,List.map_cons,List.map_nil,hav];simp [Builtin.len_,ru hu];rfl, .int _ _⟩
theorem look_lenArr {t:TypeId} {x:Operand} (ho:o.op = .call { callee:=.builtin .len,args:=#[x],argTypes:=#[t] }) {n:Nat} {el:TypeId} (hu:c.P.underlying t=some (.array n el))
  (hr:(LOp.lenArr n).run e s=some (v,s')):s'=s∧Looks μ ι w c.P a o v:=by
 cases hr
 refine ⟨rfl,_,by simp only [execOp,ho,resolve,Sem.run_bind,Sem.run_pure,Result.andThen_ok,invoke,builtin,List.map_toArray,List.map_cons,List.map_nil];simp [Builtin.len_,ru hu];rfl, .int _ _⟩
theorem minmax_go (isMax:Bool) (k:IntKind):∀ (ls:List LV) (vs:List Value) (x r:Int),vs.length=ls.length→(∀ i,i<ls.length→Rv μ ι w (ls.getD i .top) (vs.getD i undef))→minmaxLV.go isMax k x ls=some r →
  (vs.foldlM (if isMax then Builtin.max2 else Builtin.min2) (.int k x)).run c.P w = .ok (.int k r) w:=by
 intro ls
 induction ls with
 | nil=>intro vs x r hl _ h;simp at hl;subst hl;simp [minmaxLV.go] at h;subst h;rfl
 | cons l ls ih=>
  intro vs x r hl hr h
  cases vs with
  | nil=>simp at hl
  | cons u vs=>
   have h0:Rv μ ι w l u:=by simpa using hr 0 (by simp)
   cases h0<;>simp only [minmaxLV.go,reduceCtorEq] at h
   split at h
   ·rename_i e
    subst e
    have:=ih vs _ r (by simpa using hl) (fun i hi=>by simpa using hr (i+1) (by simpa using hi)) h
    cases isMax
    ·simp only [Bool.false_eq_true,if_false] at this ⊢
     simp only [List.foldlM_cons,Sem.run_bind,Builtin.min2,Sem.run_pure,Result.andThen_ok]
     exact this
    ·simp only [if_true] at this ⊢
     simp only [List.foldlM_cons,Sem.run_bind,Builtin.max2,Sem.run_pure,Result.andThen_ok]
     exact this
   ·cases h
theorem look_minmax {b:Builtin} {x:Operand} {xs:List Operand} {ts:Array TypeId} {as:Array Operand} (has:as.toList=x::xs) (hb:b = .min∨b = .max) (ho:o.op = .call { callee:=.builtin b,args:=as,argTypes:=ts })
  (hρ:Ho μ ι w c e a o) {ys:List Opd} (hy:opds c (x::xs)=some ys) (hr:(LOp.minmax (match b with | .max=>true | _=>false) ys).run e s=some (v,s')):s'=s∧Looks μ ι w c.P a o v:=by
 unfold LOp.run at hr
 dsimp only at hr
 obtain ⟨v',h1,hr⟩:=bind_some hr
 cases hr
 have hops:o.op.operands.toList=x::xs:=by rw [ho];simp [Op.operands,Call.operands,has]
 obtain ⟨hl,hrel⟩:=opds_rel (μ:=μ) (ι:=ι) (w:=w) (e:=e) (a:=a) hy (fun x y hx hy=>hρ x y (by rw [hops];exact hx) hy)
 cases ys with
 | nil=>simp [minmaxLV] at h1
 | cons y ys=>
  have h0:Rv μ ι w (y.ev e) (a.eval x):=by simpa using hrel 0 (by simp)
  simp only [List.map_cons] at h1
  generalize y.ev e=ly at *
  generalize hax:a.eval x=ax at *
  cases h0<;>simp only [minmaxLV,reduceCtorEq] at h1
  rename_i k n
  obtain ⟨r,h2,rfl⟩:=map_some' h1
  have hl':(xs.map a.eval).length=(ys.map (·.ev e)).length:=by simpa using hl
  have hrel':∀ i,i<(ys.map (·.ev e)).length→Rv μ ι w ((ys.map (·.ev e)).getD i .top) ((xs.map a.eval).getD i undef):=fun i hi=>by
   have:=hrel (i+1) (by simpa using hi)
   simpa [Array.getD_eq_getD_getElem?,List.getD_eq_getElem?_getD] using this
  have hgo:=minmax_go (c:=c) (w:=w) _ k _ _ n r hl' hrel' h2
  have hargs:(as.map a.eval).toList = .int k n::xs.map a.eval:=by simp [has,hax]
  refine ⟨rfl, .int k r,?_, .int _ _⟩
  rcases hb with rfl | rfl
  ·simp only [Bool.false_eq_true,if_false] at hgo
   simp only [execOp,ho,resolve,Sem.run_bind,Sem.run_pure,Result.andThen_ok,invoke,builtin,Builtin.min_,hargs]
   rw [hgo];rfl
  ·simp only [if_true] at hgo
   simp only [execOp,ho,resolve,Sem.run_bind,Sem.run_pure,Result.andThen_ok,invoke,builtin,Builtin.max_,hargs]
   rw [hgo];rfl
theorem look_sound {lo:LOp} (hl:Op.looks o.op=true) (hc:compOp c o=some lo) (hρ:Ho μ ι w c e a o) (I:Inv cmp w0 μ ι δ s w) (hnew:isNewL lo=false) (hr:lo.run e s=some (v,s')) :
  s'=s∧Looks μ ι w c.P a o v:=by
 cases ho:o.op<;>rw [ho] at hl<;>simp only [Op.looks,reduceCtorEq,Bool.false_eq_true] at hl
 case move x=>simp only [compOp,ho] at hc;obtain ⟨y,hy,rfl⟩:=map_some' hc;exact look_move (.inl ho) hρ hy hr
 case assign x=>simp only [compOp,ho] at hc;obtain ⟨y,hy,rfl⟩:=map_some' hc;exact look_move (.inr ho) hρ hy hr
 case pick k x y=>
  simp only [compOp,ho] at hc
  obtain ⟨k',hk,hc⟩:=bind_some hc;obtain ⟨x',hx,hc⟩:=bind_some hc;obtain ⟨y',hy,hc⟩:=bind_some hc;cases hc
  exact look_pick ho hρ hk hx hy hr
 case build t ps=>exact look_build ho hρ hc hr
 case load t x=>
  simp only [compOp,ho] at hc
  obtain ⟨n,hn,hc⟩:=bind_some hc;obtain ⟨y,hy,hc⟩:=bind_some hc;cases hc
  exact look_load I ho hρ hn hy hr
 case nilCheck x=>simp only [compOp,ho] at hc;obtain ⟨y,hy,hc⟩:=bind_some hc;cases hc;exact look_nilchk ho hρ hy hr
 case binOp op t x y t'=>exact look_bin ho hρ hc hr
 case unOp op t x=>simp only [compOp,ho] at hc;obtain ⟨y,hy,hc⟩:=bind_some hc;cases hc;exact look_un ho hρ hy hr
 case convert t d x=>
  simp only [compOp,ho] at hc
  cases hu:c.P.underlying d with
  | none=>simp [hu] at hc
  | some ty=>
   rw [hu] at hc
   cases ty<;>simp only [reduceCtorEq] at hc
   case int k=>obtain ⟨⟨⟩,ht,hc⟩:=bind_some hc;obtain ⟨y,hy,hc⟩:=bind_some hc;cases hc;exact look_convInt ho hρ hu (by unfold knownTy at ht;split at ht;exact ⟨_,by assumption⟩;cases ht) hy hr
   case string=>
    split at hc
    ·split at hc
     ·obtain ⟨y,hy,hc⟩:=map_some' hc;subst hc;cases hnew
     ·cases hc
    ·rename_i d' hd' hts;obtain ⟨y,hy,hc⟩:=map_some' hc;subst hc;exact look_convSame ho hρ hu ⟨_,hts⟩ hy hr
    ·cases hc
 case makeFunc f xs ys=>
  cases f<;>simp only [compOp,ho,reduceCtorEq] at hc
  obtain ⟨lx,hx,hc⟩:=bind_some hc;obtain ⟨ly,hy,hc⟩:=bind_some hc;cases hc
  exact look_mkfn ho hρ hx hy hr
 case slice t x l h m=>
  cases m with
  | some mx=>
   exfalso
   cases l<;>cases h<;>simp only [compOp,ho,reduceCtorEq] at hc
   split at hc
   ·obtain ⟨_,_,hc⟩:=bind_some hc;obtain ⟨_,_,hc⟩:=bind_some hc;obtain ⟨_,_,hc⟩:=bind_some hc;obtain ⟨_,_,hc⟩:=bind_some hc;obtain ⟨_,_,hc⟩:=bind_some hc;cases hc;cases hnew
   ·cases hc
  | none=>
  simp only [compOp,ho] at hc
  cases hu:c.P.underlying t with
  | none=>simp [hu] at hc
  | some ty=>
   rw [hu] at hc
   cases ty<;>simp only [reduceCtorEq] at hc
   case slice el=>
    obtain ⟨n,hn,hc⟩:=bind_some hc;obtain ⟨y,hy,hc⟩:=bind_some hc;obtain ⟨l',hl',hc⟩:=bind_some hc;obtain ⟨h',hh',hc⟩:=bind_some hc;cases hc
    exact look_slice ho hρ hu hn hy hl' hh' hr
   case string=>
    obtain ⟨y,hy,hc⟩:=bind_some hc;obtain ⟨l',hl',hc⟩:=bind_some hc;obtain ⟨h',hh',hc⟩:=bind_some hc;cases hc
    exact look_sliceStr ho hρ hu hy hl' hh' hr
   case array n el=>
    obtain ⟨sz,hn,hc⟩:=bind_some hc;obtain ⟨y,hy,hc⟩:=bind_some hc;obtain ⟨l',hl',hc⟩:=bind_some hc;obtain ⟨h',hh',hc⟩:=bind_some hc;cases hc
    exact look_sliceArr ho I hρ hu hn hy hl' hh' hr
 case fieldAddr st x f=>
  simp only [compOp,ho] at hc
  cases hu:c.P.underlying st with
  | none=>simp [hu] at hc
  | some ty=>
   rw [hu] at hc
   cases ty<;>simp only [reduceCtorEq] at hc
   obtain ⟨fl,hf,hc⟩:=bind_some hc;obtain ⟨n,hn,hc⟩:=bind_some hc
   split at hc
   ·cases hc
   ·rename_i h0
    obtain ⟨y,hy,hc⟩:=bind_some hc;cases hc
    exact look_faddr ho hρ hu hf hn h0 hy hr
 case field t x f=>
  simp only [compOp,ho] at hc
  cases hu:c.P.underlying t with
  | none=>simp [hu] at hc
  | some ty=>
   rw [hu] at hc
   cases ty<;>simp only [reduceCtorEq] at hc
   obtain ⟨fl,hf,hc⟩:=bind_some hc;obtain ⟨n,hn,hc⟩:=bind_some hc;obtain ⟨y,hy,hc⟩:=bind_some hc;cases hc
   exact look_field ho hρ hu hf hn hy hr
 case indexAddr t x i=>
  simp only [compOp,ho] at hc
  cases hu:c.P.underlying t with
  | none=>simp [hu] at hc
  | some ty=>
   rw [hu] at hc
   cases ty<;>simp only [reduceCtorEq] at hc
   case slice el=>obtain ⟨n,hn,hc⟩:=bind_some hc;obtain ⟨y,hy,hc⟩:=bind_some hc;obtain ⟨yi,hyi,hc⟩:=bind_some hc;cases hc;exact look_iaddr ho hρ hu hn hy hyi hr
   case array len el=>obtain ⟨n,hn,hc⟩:=bind_some hc;obtain ⟨y,hy,hc⟩:=bind_some hc;obtain ⟨yi,hyi,hc⟩:=bind_some hc;cases hc;exact look_iaddrArr ho hρ hu hn hy hyi hr
 case index t x i=>
  simp only [compOp,ho] at hc
  cases hu:c.P.underlying t with
  | none=>simp [hu] at hc
  | some ty=>
   rw [hu] at hc
   cases ty<;>simp only [reduceCtorEq] at hc
   case array len el=>
    obtain ⟨n,hn,hc⟩:=bind_some hc;obtain ⟨ag,hag,hc⟩:=bind_some hc;obtain ⟨y,hy,hc⟩:=bind_some hc;obtain ⟨yi,hyi,hc⟩:=bind_some hc;cases hc
    exact look_indexArr ho hρ hu hn hag hy hyi hr
   case string=>obtain ⟨y,hy,hc⟩:=bind_some hc;obtain ⟨yi,hyi,hc⟩:=bind_some hc;cases hc;exact look_indexStr ho hρ hu hy hyi hr
 case extract x i=>simp only [compOp,ho] at hc;obtain ⟨y,hy,hc⟩:=bind_some hc;cases hc;exact look_ext ho hρ hy hr
 case call cl=>
  obtain ⟨cal,as,ts⟩:=cl
  cases cal<;>try (cases hl;done)
  rename_i b
  cases b<;>simp only [reduceCtorEq,Bool.false_eq_true] at hl
  case len=>
   simp only [compOp,ho,compBuiltin] at hc
   rcases has:as.toList with _ | ⟨x,_ | ⟨x2,xs⟩⟩<;>rcases hts:ts.toList with _ | ⟨t,_ | ⟨t2,tl⟩⟩<;>rw [has,hts] at hc<;>try (cases hc;done)
   have h1:as = #[x]:=by apply Array.ext';simpa using has
   have h2:ts = #[t]:=by apply Array.ext';simpa using hts
   subst h1;subst h2
   simp only [compLen] at hc
   cases hu:c.P.underlying t with
   | none=>simp [hu] at hc
   | some ty=>
    rw [hu] at hc
    cases ty<;>simp only [reduceCtorEq] at hc
    case slice el=>obtain ⟨y,hy,hc⟩:=bind_some hc;cases hc;exact look_lenSl ho hρ hu hy hr
    case string=>obtain ⟨y,hy,hc⟩:=bind_some hc;cases hc;exact look_lenStr ho hρ hu hy hr
    case array n el=>cases hc;exact look_lenArr ho hu hr
    case map=>obtain ⟨y,hy,hc⟩:=bind_some hc;cases hc;cases hnew
  case max=>
   simp only [compOp,ho,compBuiltin] at hc
   rcases has:as.toList with _ | ⟨x,xs⟩<;>rw [has] at hc<;>try (cases hc;done)
   simp only at hc
   obtain ⟨ys,hy,hc⟩:=bind_some hc;cases hc
   exact look_minmax has (.inr rfl) ho hρ hy hr
  case min=>
   simp only [compOp,ho,compBuiltin] at hc
   rcases has:as.toList with _ | ⟨x,xs⟩<;>rw [has] at hc<;>try (cases hc;done)
   simp only at hc
   obtain ⟨ys,hy,hc⟩:=bind_some hc;cases hc
   exact look_minmax has (.inl rfl) ho hρ hy hr
end
end Go.Pv
end
