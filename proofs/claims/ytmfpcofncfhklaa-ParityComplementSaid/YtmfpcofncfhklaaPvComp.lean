/- From the machine's code to its plain form: types looked up once and for all. -/
import Derived.Test.YtmfpcofncfhklaaPvInv
import Derived.Orders
namespace Go.Pv
open Go

structure Ctx where
  P : Program
  /-- package-level variables that hold what they hold for ever -/
  globs : List (Nat × List LV)
  /-- boxes of this function (by slot) that are written behind their making -/
  refs : List Nat
  /-- the number of temporaries -/
  nt : Nat

def scalarC : Value → Option LV
  | .bool b => some (.bool b)
  | .int k n => some (.int k n)
  | .string s => some (.str s)
  | .pointer none => some .nilp
  | .slice none 0 0 => some .nils
  | .map none => some .nilm
  | .nilFunc => some .nilf
  | .nilIface => some .nili
  | _ => none

def constC : Value → Option LV
  | .agg cs => (cs.toList.mapM scalarC).map .agg
  | .tuple vs => if vs.toList.length = 0 then some (.tup []) else none
  | v => scalarC v

def opd (c : Ctx) : Operand → Option Opd
  | .tmp t => some (.t t)
  | .const v => (constC v).map .c
  | .global g => ((c.globs.find? fun x => x.1 == g).map fun x => .c (.pimm x.2 0))
  | .func f => some (.c (.fn (.func f) [] []))

def opds (c : Ctx) (l : List Operand) : Option (List Opd) := l.mapM (opd c)
def opdO (c : Ctx) : Option Operand → Option (Option Opd)
  | none => some none
  | some x => (opd c x).map some

def szOf (P : Program) (t : TypeId) : Option Nat := (P.info? t).map (·.size)
/-- none: no such type · some none: a value of one cell · some (some n): an aggregate of n cells. -/
def aggOf (P : Program) (t : TypeId) : Option (Option Nat) :=
  match P.underlying t with
  | some (.struct _) | some (.array _ _) => (szOf P t).map some
  | some _ => some none
  | none => none
def zeroC (P : Program) (t : TypeId) : Option (List LV) := do
  let i ← P.info? t
  let z ← i.zero
  cells? (← constC z)

def scTy (P : Program) (t : TypeId) : Option EqTy :=
  match P.underlying t with
  | some .bool => some .bool
  | some (.int _) => some .int
  | some .string => some .str
  | _ => none

def eqTy (P : Program) (t : TypeId) : Option EqTy :=
  match P.underlying t with
  | some .bool | some (.int _) | some .string => scTy P t
  | some (.pointer _) => some .ptr
  | some (.slice _) => some .slc
  | some (.map _ _) => some .mp
  | some (.func _ _ _) => some .fnc
  | some (.interface _) => some .ifc
  | some (.struct fs) =>
    if P.stoodInHeld t || P.eqGuardType P.depth t then none else
    if fs.toList.all (fun f => f.name != "_") then (fs.toList.mapM fun f => (scTy P f.type).map fun e => (f.offset, 1, e)).map .struct else none
  | _ => none

def partsOf (c : Ctx) (place : Nat → Option (Nat × Nat)) (ps : List (Nat × Operand)) : Option (List (Nat × Nat × Opd)) :=
  ps.mapM fun (i, x) => do
    let (off, size) ← place i
    let x ← opd c x
    some (off, size, x)

def isArith : BinOp → Bool
  | .eql | .neq => false
  | _ => true

def knownTy (P : Program) (t : TypeId) : Option Unit :=
  match P.underlying t with
  | some _ => some ()
  | none => none

def isNeq : BinOp → Bool
  | .neq => true
  | _ => false

def boxIm (c : Ctx) (o : Oper) : Bool :=
  match o.dst with
  | some d => !c.refs.contains d
  | none => false

def compLen (c : Ctx) (x : Operand) (t : TypeId) : Option LOp :=
  match c.P.underlying t with
  | some (.slice _) => do some (.lenSl (← opd c x))
  | some .string => do some (.lenStr (← opd c x))
  | some (.array n _) => some (.lenArr n)
  | some (.map _ _) => do some (.lenMap (← opd c x))
  | _ => none

def isSeq : TypeDesc → Bool
  | .slice _ | .string => true
  | _ => false

def isU8 (P : Program) (t : TypeId) : Bool :=
  match P.underlying t with
  | some (.int .u8) => true
  | _ => false

def keyKind (P : Program) (t : TypeId) : Option KTy :=
  match P.underlying t with
  | some (.int k) => some (.int k)
  | some .string => some .str
  | some (.struct _) =>
    match eqTy P t with
    | some (.struct es) => some (.st es)
    | _ => none
  | _ => none

def isIntD : TypeDesc → Bool
  | .int _ => true
  | _ => false

def compCap (c : Ctx) (x : Operand) (t : TypeId) : Option LOp :=
  match c.P.underlying t with
  | some (.slice _) => do some (.capZ (← opd c x))
  | _ => none

def compAppend (c : Ctx) (x y : Operand) (t u : TypeId) : Option LOp :=
  match c.P.underlying t with
  | some (.slice e) => do
    let d ← c.P.underlying u
    let i ← c.P.info? e
    let z ← zeroC c.P e
    if i.size = 0 ∨ i.bytes = 0 ∨ z.length ≠ i.size then none else
    if isSeq d = true then do some (.append i.size i.bytes (← opd c x) (← opd c y)) else
    if isIntD d = true then do some (.appz i.size i.bytes z (← opd c x) (← opd c y)) else none
  | _ => none

def compCopy (c : Ctx) (x y : Operand) (t : TypeId) : Option LOp :=
  match c.P.underlying t with
  | some (.slice e) => do some (.copy (← szOf c.P e) (← opd c x) (← opd c y))
  | _ => none

def compBuiltin (c : Ctx) (b : Builtin) (as : List Operand) (ts : List TypeId) : Option LOp :=
  match b, as, ts with
  | .len, [x], [t] => compLen c x t
  | .append, [x, y], [t, u] => compAppend c x y t u
  | .copy, [x, y], [t, _] => compCopy c x y t
  | .cap, [x], [t] => compCap c x t
  | .min, x :: xs, _ => do some (.minmax false (← opds c (x :: xs)))
  | .max, x :: xs, _ => do some (.minmax true (← opds c (x :: xs)))
  | _, _, _ => none

def compOp (c : Ctx) (o : Oper) : Option LOp :=
  match o.op with
  | .move x | .assign x => (opd c x).map .mv
  | .pick k a b => do some (.pick (← opd c k) (← opd c a) (← opd c b))
  | .box _ x => do some (.box (boxIm c o) (← opd c x))
  | .alloc t => do some (.alloc (← zeroC c.P t))
  | .build t ps => do
    let z ← zeroC c.P t
    match c.P.underlying t with
    | some (.struct fs) =>
      let places ← fs.toList.mapM fun f => do some (f.offset, ← szOf c.P f.type)
      some (.build z (← partsOf c (places[·]?) ps.toList))
    | some (.array _ e) => do
      let size ← szOf c.P e
      some (.build z (← partsOf c (fun i => some (i * size, size)) ps.toList))
    | _ => none
  | .buildSlice t len ps =>
    match c.P.underlying t with
    | some (.slice e) => do
      let size ← szOf c.P e
      let z ← zeroC c.P e
      if size = 0 ∨ z.length ≠ size ∨ len * size > 2 ^ 20 then none else
      some (.bslice size len z (← partsOf c (fun i => some (i * size, size)) ps.toList))
    | _ => none
  | .load t x => do some (.load (← aggOf c.P t) (← opd c x))
  | .store t a x => do some (.store (← szOf c.P t) (← opd c a) (← opd c x))
  | .nilCheck x => do some (.nilchk (← opd c x))
  | .binOp op xt x y _ => do
    let x ← opd c x
    let y ← opd c y
    match c.P.underlying xt with
    | some (.int _) | some .string => some (.bin op x y)
    | _ => if isArith op then none else do some (.eq (isNeq op) (← eqTy c.P xt) x y)
  | .unOp op _ x => do some (.un op (← opd c x))
  | .convert src dst x =>
    match c.P.underlying dst with
    | some (.int k) => do knownTy c.P src; some (.convInt k (← opd c x))
    | some .string =>
      match c.P.underlying src with
      | some (.slice el) => if isU8 c.P el then (opd c x).map .bytesStr else none
      | some _ => (opd c x).map .convSame
      | none => none
    | _ => none
  | .range t x =>
    match c.P.underlying t with
    | some (.map _ _) => do some (.mrange (← opd c x))
    | _ => none
  | .next x false => (opd c x).map .mnext
  | .entry x => (opd c x).map .mentry
  | .makeMap t x =>
    match c.P.underlying t with
    | some (.map _ _) => do some (.mkmap (← opdO c x))
    | _ => none
  | .lookup t m k ok =>
    match c.P.underlying t with
    | some (.map key elem) => do
      let kd ← keyKind c.P key
      let z ← (c.P.info? elem).bind (·.zero)
      some (.mlook kd (← constC z) ok (← opd c m) (← opd c k))
    | _ => none
  | .mapUpdate t m k x =>
    match c.P.underlying t with
    | some (.map key _) => do
      let kd ← keyKind c.P key
      some (.mupd kd (← opd c m) (← opd c k) (← opd c x))
    | _ => none
  | .slice t x (some lo) (some hi) (some mx) =>
    match c.P.underlying t with
    | some (.slice e) => do let _ ← szOf c.P e; some (.sliceZ (← opd c x) (← opd c lo) (← opd c hi) (← opd c mx))
    | _ => none
  | .makeFunc (.func f) first caps => do some (.mkfn (.func f) (← opds c first.toList) (← opds c caps.toList))
  | .makeSlice t l k =>
    match c.P.underlying t with
    | some (.slice e) => do
      let i ← c.P.info? e
      let z ← zeroC c.P e
      if i.size = 0 then none else
      some (.mkslice i.size i.bytes z (← opd c l) (← opd c k))
    | _ => none
  | .slice t x lo hi none =>
    match c.P.underlying t with
    | some (.slice e) => do some (.slice (← szOf c.P e) (← opd c x) (← opdO c lo) (← opdO c hi))
    | some .string => do some (.sliceStr (← opd c x) (← opdO c lo) (← opdO c hi))
    | _ => none
  | .fieldAddr s x f =>
    match c.P.underlying s with
    | some (.struct fs) => do
      let fl ← fs[f]?
      let size ← szOf c.P fl.type
      if size = 0 then none else some (.faddr fl.offset (← opd c x))
    | _ => none
  | .field t x f =>
    match c.P.underlying t with
    | some (.struct fs) => do
      let fl ← fs[f]?
      some (.field fl.offset (← aggOf c.P fl.type) (← opd c x))
    | _ => none
  | .indexAddr t x i =>
    match c.P.underlying t with
    | some (.slice e) => do some (.iaddr (← szOf c.P e) (← opd c x) (← opd c i))
    | some (.array n e) => do some (.iaddrArr (← szOf c.P e) n (← opd c x) (← opd c i))
    | _ => none
  | .index t x i =>
    match c.P.underlying t with
    | some (.array n e) => do some (.indexArr (← szOf c.P e) n (← aggOf c.P e) (← opd c x) (← opd c i))
    | some .string => do some (.indexStr (← opd c x) (← opd c i))
    | _ => none
  | .extract x i => do some (.ext (← opd c x) i)
  | .call { callee := .value f, args, .. } => do some (.call (← opd c f) (← opds c args.toList))
  | .call { callee := .builtin b, args, argTypes } => compBuiltin c b args.toList argTypes.toList
  | _ => none

def compOper (c : Ctx) (ops : Array Oper) (o : Oper) : Option LOper := do
  let op ← compOp c o
  match o.dst with
  | some d => if d < c.nt then pure () else none
  | none => pure ()
  match o.guard with
  | none => some { dst := o.dst, op }
  | some (j, want) => do
    let d ← (ops[j]?).bind (·.dst)
    some { dst := o.dst, op, guard := some (d, want) }

/-- Does an operation only look (whatever it looks at)? -/
def Op.looks : Op → Bool
  | .move _ | .assign _ | .pick .. | .build .. | .load .. | .nilCheck _ | .binOp .. | .unOp .. | .fieldAddr .. | .field .. | .indexAddr .. | .index .. | .extract .. | .makeFunc .. | .slice .. => true
  | .convert .. => true
  | .call { callee := .builtin .len, .. } | .call { callee := .builtin .min, .. } | .call { callee := .builtin .max, .. } => true
  | _ => false

/-- Does it make a row of cells, and nothing else? -/
def Op.makes : Op → Bool
  | .alloc _ | .box .. | .buildSlice .. | .makeSlice .. => true
  | _ => false

/-- Does it look at memory? -/
def Op.reads : Op → Bool
  | .load .. => true
  | _ => false

/-- Direct predecessors, whatever order is drawn. -/
def depsOf (o : Oper) : List Nat := o.after.toList.filterMap fun e => if Region.binds .any e then some e.on else none
/-- All that stand ahead of an operation, whatever order is drawn: a mask for each. -/
def ancs : List Oper → List Nat → List Nat
  | [], acc => acc
  | o :: os, acc => ancs os (acc ++ [(depsOf o).foldl (fun s j => s ||| 2 ^ j ||| acc.getD j 0) 0])

/-- What leaves the small heap as it is. -/
def looksL : LOp → Bool
  | .box .. | .alloc _ | .bslice .. | .mkslice .. | .store .. | .append .. | .copy .. | .call .. | .mkmap _ | .mupd .. | .mrange _ | .mnext _ | .appz .. => false
  | _ => true
/-- Does it look at the small heap? -/
def isLoadL : LOp → Bool
  | .load .. | .bytesStr _ | .mlook .. | .lenMap _ | .mentry _ => true
  | _ => false
/-- The operations that were taken in last. -/
def isNewL : LOp → Bool
  | .bytesStr _ | .sliceZ .. | .mlook .. | .lenMap _ | .mkmap _ | .mupd .. | .mrange _ | .mentry _ | .capZ _ | .appz .. => true
  | _ => false
def isBoxIm : LOp → Bool
  | .box true _ => true
  | _ => false
/-- A row of cells that may be written. -/
def isRow : LOp → Bool
  | .box false _ | .alloc _ | .bslice .. | .mkslice .. => true
  | _ => false
def isFloat (o : LOp) : Bool := looksL o || isBoxIm o || isRow o
def isFloatO (o : Oper) : Bool := Op.looks o.op || Op.makes o.op

abbrev DOp := Nat × Oper × LOper

/-- An order: looks and makes as early as may be. -/
def canon (ops : List Oper) : Nat → List Nat → List Nat → List Nat
  | 0, _, _ => []
  | n + 1, done, rest =>
    let rdy := fun (i : Nat) => ((ops[i]?).map fun o => (depsOf o).all fun j => done.contains j).getD false
    match rest.find? (fun i => rdy i && ((ops[i]?).map isFloatO).getD false) with
    | some i => i :: canon ops n (i :: done) (rest.erase i)
    | none =>
      match rest.find? rdy with
      | some i => i :: canon ops n (i :: done) (rest.erase i)
      | none => []

def readsOf (ops : Array Oper) (x : DOp) : List Nat := x.2.1.looksAt ops ++ x.2.2.op.tmps ++ (match x.2.2.guard with | some g => [g.1] | none => [])

def chkOf (anc : List Nat) (pre : List DOp) (x : DOp) : List (Nat × Option (Nat × Bool) × LOp) :=
  if looksL x.2.2.op || isBoxIm x.2.2.op then [] else
  pre.filterMap fun y => if isLoadL y.2.2.op && (isRow x.2.2.op || !(anc.getD x.1 0).testBit y.1) then y.2.2.dst.map fun d => (d, y.2.2.guard, y.2.2.op) else none

def drawn (anc : List Nat) : List DOp → List DOp → List LOper
  | _, [] => []
  | pre, x :: rest => { x.2.2 with chk := chkOf anc pre x, fl := true } :: drawn anc (pre ++ [x]) rest

/-- What holds of each operation, with those ahead of it and those behind it. -/
def drawChk1 (ops : Array Oper) (anc : List Nat) (base : List DOp) (pre : List DOp) (x : DOp) (rest : List DOp) : Bool :=
  (depsOf x.2.1).all (fun j => (pre.map (·.1)).contains j) &&
  (isFloat x.2.2.op || rest.all fun y => (anc.getD y.1 0).testBit x.1) &&
  base.all (fun y => match y.2.2.dst with
    | some d => !(readsOf ops x).contains d || (y.1 != x.1 && (anc.getD x.1 0).testBit y.1)
    | none => true) &&
  base.all (fun y => match y.2.2.dst with
    | some d => x.1 == y.1 || x.2.2.dst != some d
    | none => true) &&
  pre.all (fun y => match x.2.2.dst with
    | some d => !(readsOf ops y).contains d
    | none => true) &&
  (!isLoadL x.2.2.op || x.2.2.dst.isSome) &&
  (!isRow x.2.2.op || Op.makes x.2.1.op)

def drawChk (ops : Array Oper) (anc : List Nat) (base : List DOp) : List DOp → List DOp → Bool
  | _, [] => true
  | pre, x :: rest => drawChk1 ops anc base pre x rest && drawChk ops anc base (pre ++ [x]) rest

def compDraw (c : Ctx) (ops : Array Oper) : Option (List LOper) :=
  let anc := ancs ops.toList []
  match (canon ops.toList ops.size [] (List.range ops.size)).mapM (fun i => do let o ← ops[i]?; let lo ← compOper c ops o; some (i, o, lo)) with
  | none => none
  | some base =>
    if base.length = ops.size ∧ (base.map (·.1)).Nodup ∧ (List.range ops.size).all (fun i => (base.map (·.1)).contains i) = true ∧ drawChk ops anc base [] base = true then some (drawn anc [] base) else none

def compRegion (c : Ctx) (ops : Array Oper) (draw : Bool) : Option (List LOper) :=
  if draw then compDraw c ops else ops.toList.mapM (compOper c ops)

def compCode (c : Ctx) : Code → LCode
  | .skip | .label _ => .skip
  | .region _ ops draw =>
    match compRegion c ops draw with
    | some l => .region l
    | none => .bad
  | .seq a b => .seq (compCode c a) (compCode c b)
  | .cond x a b => match opd c x with | some y => .cond y (compCode c a) (compCode c b) | none => .bad
  | .block id a => .block id (compCode c a)
  | .loop a => .loop (compCode c a)
  | .rangeFunc f ps as bo =>
    match opd c f with
    | some y => if ps.toList.all (· < c.nt) then .rangeFunc y ps.toList (compCode c as) (compCode c bo) else .bad
    | none => .bad
  | .exit id => .exit id
  | .scope a => .scope (compCode c a)
  | .ret => .ret
  | .goto _ => .bad
  | .refuse _ => .bad

def compRes (c : Ctx) : ResultVar → Option LRes
  | .tmp t => some (.tmp t)
  | .cell a t => do some (.cell a (← aggOf c.P t))

def compFunc (P : Program) (globs : List (Nat × List LV)) (refs : List Nat) (fn : Func) : Option LFunc := do
  let body ← fn.body
  let c : Ctx := ⟨P, globs, refs, fn.ntmps⟩
  some { ntmps := fn.ntmps, results := ← fn.results.toList.mapM (compRes c), body := compCode c body }

end Go.Pv
