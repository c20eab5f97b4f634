/- Plain values, plain code: the data types of the second semantics and its operations, as functions. No program is in sight. -/
import Derived.AtR
import Derived.Laws.World
namespace Go.Pv
open Go

/-- A value whose immutable memory is carried by value; memory that may still be written is named by an id of the small heap. -/
inductive LV where
  | top
  | bool (b : Bool)
  | int (k : IntKind) (n : Int)
  | str (s : ByteArray)
  | agg (cs : List LV)
  | tup (vs : List LV)
  | nilp
  | pimm (cs : List LV) (off : Nat)
  | pref (id off : Nat)
  | nils
  | zs
  | simm (cs : List LV) (len : Nat)
  | sref (id off len esz : Nat)
  | fn (f : Fn) (first caps : List LV)
  | nilf
  | yld (id : Nat)
  | ifc (t : TypeId) (v : LV)
  | nili
  | nilm
  | mref (id : Nat)
  deriving Inhabited

/-- A tree of numbered places. -/
inductive Tr (α : Type) where
  | nil
  | node (l : Tr α) (v : Option α) (r : Tr α)

def Tr.get {α : Type} : Tr α → Nat → Option α
  | .nil, _ => none
  | .node l v r, i => if i = 0 then v else if i % 2 = 1 then l.get (i / 2) else r.get (i / 2 - 1)

def Tr.left {α : Type} : Tr α → Tr α | .nil => .nil | .node l _ _ => l
def Tr.here {α : Type} : Tr α → Option α | .nil => none | .node _ v _ => v
def Tr.right {α : Type} : Tr α → Tr α | .nil => .nil | .node _ _ r => r

def Tr.setA {α : Type} (a : α) : Nat → Tr α → Nat → Tr α
  | 0, t, _ => t
  | n + 1, t, i =>
    if i = 0 then .node t.left (some a) t.right
    else if i % 2 = 1 then .node (Tr.setA a n t.left (i / 2)) t.here t.right
    else .node t.left t.here (Tr.setA a n t.right (i / 2 - 1))

def Tr.set {α : Type} (t : Tr α) (i : Nat) (a : α) : Tr α := Tr.setA a (i + 1) t i

theorem Tr.get_eq {α : Type} (t : Tr α) (i : Nat) : t.get i = if i = 0 then t.here else if i % 2 = 1 then t.left.get (i / 2) else t.right.get (i / 2 - 1) := by
  cases t with
  | nil => simp [Tr.get, Tr.here, Tr.left, Tr.right]
  | node l v r => simp [Tr.get, Tr.here, Tr.left, Tr.right]

theorem Tr.get_setA {α : Type} (a : α) : ∀ (n : Nat) (t : Tr α) (i j : Nat), i < n → (Tr.setA a n t i).get j = if j = i then some a else t.get j := by
  intro n
  induction n with
  | zero => intro t i j h; omega
  | succ n ih =>
    intro t i j h
    unfold Tr.setA
    by_cases h0 : i = 0
    · subst h0
      simp only [if_true]
      rw [Tr.get_eq t j]
      by_cases hj : j = 0
      · simp [hj, Tr.get]
      · simp [hj, Tr.get]
    · by_cases h1 : i % 2 = 1
      · rw [if_neg h0, if_pos h1, Tr.get_eq t j]
        simp only [Tr.get]
        by_cases hj : j = 0
        · have : ¬ (0 = i) := by omega
          simp [hj, this]
        · by_cases hj1 : j % 2 = 1
          · simp only [hj, hj1, if_false, if_true]
            rw [ih _ _ _ (by omega)]
            by_cases e : j = i
            · subst e; simp
            · rw [if_neg e, if_neg (by omega)]
          · have : ¬ (j = i) := by intro e; subst e; exact hj1 h1
            simp [hj, hj1, this]
      · rw [if_neg h0, if_neg h1, Tr.get_eq t j]
        simp only [Tr.get]
        by_cases hj : j = 0
        · have : ¬ (0 = i) := by omega
          simp [hj, this]
        · by_cases hj1 : j % 2 = 1
          · have : ¬ (j = i) := by intro e; subst e; exact h1 hj1
            simp [hj, hj1, this]
          · simp only [hj, hj1, if_false]
            rw [ih _ _ _ (by omega)]
            by_cases e : j = i
            · subst e; simp
            · rw [if_neg e, if_neg (by omega)]

@[simp] theorem Tr.get_set {α : Type} (t : Tr α) (i j : Nat) (a : α) : (t.set i a).get j = if j = i then some a else t.get j :=
  Tr.get_setA a _ t i j (Nat.lt_succ_self i)

@[simp] theorem Tr.get_nil {α : Type} (i : Nat) : (Tr.nil : Tr α).get i = none := rfl

abbrev Env := Tr LV
def Env.at (e : Env) (i : Nat) : LV := (Tr.get e i).getD .top
@[simp] theorem Env.at_set (e : Env) (i j : Nat) (v : LV) : Env.at (Tr.set e i v) j = if j = i then v else Env.at e j := by
  unfold Env.at; rw [Tr.get_set]; split <;> rfl
@[simp] theorem Env.at_nil (i : Nat) : Env.at .nil i = .top := rfl
def Env.put (e : Env) (dst : Option Nat) (v : LV) : Env := match dst with | some d => Tr.set e d v | none => e
@[simp] theorem Env.put_some (e : Env) (d : Nat) (v : LV) : Env.put e (some d) v = Tr.set e d v := rfl
@[simp] theorem Env.put_none (e : Env) (v : LV) : Env.put e none v = e := rfl

/-- Operands. -/
inductive Opd where
  | t (i : Nat)
  | c (v : LV)
  deriving Inhabited

def Opd.ev (e : Env) : Opd → LV
  | .t i => e.at i
  | .c v => v
@[simp] theorem Opd.ev_t (e : Env) (i : Nat) : (Opd.t i).ev e = e.at i := rfl
@[simp] theorem Opd.ev_c (e : Env) (v : LV) : (Opd.c v).ev e = v := rfl

/-- How '==' goes at a type. -/
inductive EqTy where
  | bool | int | str
  | ptr | slc | mp | fnc | ifc
  | struct (fs : List (Nat × Nat × EqTy))
  deriving Inhabited

/-- What keys a map has: integers of a kind · strings · rows of integers, compared field by field. -/
inductive KTy where
  | int (k : IntKind)
  | str
  | st (es : List (Nat × Nat × EqTy))
  deriving Inhabited

/-- Operations, their types looked up. -/
inductive LOp where
  | mv (x : Opd)
  | pick (c a b : Opd)
  | box (im : Bool) (x : Opd)
  | alloc (zero : List LV)
  | build (zero : List LV) (parts : List (Nat × Nat × Opd))
  | bslice (esz len : Nat) (zero : List LV) (parts : List (Nat × Nat × Opd))
  | load (n : Option Nat) (x : Opd)
  | store (n : Nat) (a x : Opd)
  | nilchk (x : Opd)
  | bin (op : BinOp) (x y : Opd)
  | eq (neg : Bool) (t : EqTy) (x y : Opd)
  | un (op : UnOp) (x : Opd)
  | convInt (k : IntKind) (x : Opd)
  | convSame (x : Opd)
  | mkfn (f : Fn) (first caps : List Opd)
  | mkslice (esz bytes : Nat) (zero : List LV) (len cap : Opd)
  | slice (esz : Nat) (x : Opd) (lo hi : Option Opd)
  | sliceStr (x : Opd) (lo hi : Option Opd)
  | faddr (off : Nat) (x : Opd)
  | field (off : Nat) (n : Option Nat) (x : Opd)
  | iaddr (esz : Nat) (x i : Opd)
  | iaddrArr (esz len : Nat) (x i : Opd)
  | indexArr (esz len : Nat) (n : Option Nat) (x i : Opd)
  | indexStr (x i : Opd)
  | ext (x : Opd) (i : Nat)
  | lenSl (x : Opd)
  | lenStr (x : Opd)
  | lenArr (n : Nat)
  | append (esz bytes : Nat) (x y : Opd)
  | copy (esz : Nat) (x y : Opd)
  | sliceZ (x lo hi mx : Opd)
  | bytesStr (x : Opd)
  | mkmap (x : Option Opd)
  | mlook (kd : KTy) (zero : LV) (ok : Bool) (m k : Opd)
  | mupd (kd : KTy) (m k v : Opd)
  | lenMap (x : Opd)
  | capZ (x : Opd)
  | appz (esz bytes : Nat) (zero : List LV) (x n : Opd)
  | mrange (x : Opd)
  | mnext (x : Opd)
  | mentry (x : Opd)
  | minmax (isMax : Bool) (xs : List Opd)
  | call (f : Opd) (args : List Opd)
  deriving Inhabited

/-- 'chk': looks that stand ahead of this operation here, and may come behind it where the order is drawn: they must yield the same behind it. -/
structure LOper where
  dst : Option Nat
  op : LOp
  guard : Option (Nat × Bool) := none
  chk : List (Nat × Option (Nat × Bool) × LOp) := []
  /-- 'fl': the order is drawn here. -/
  fl : Bool := false
  deriving Inhabited

inductive LCode where
  | skip
  | region (ops : List LOper)
  | seq (a b : LCode)
  | cond (c : Opd) (a b : LCode)
  | block (id : Nat) (c : LCode)
  | loop (c : LCode)
  | rangeFunc (f : Opd) (ps : List Nat) (assign body : LCode)
  | exit (id : Nat)
  | scope (c : LCode)
  | ret
  | bad
  deriving Inhabited

inductive LRes where
  | tmp (t : Nat)
  | cell (t : Nat) (n : Option Nat)
  deriving Inhabited

structure LFunc where
  ntmps : Nat
  results : List LRes
  body : LCode
  deriving Inhabited

inductive Jmp where
  | ret
  | exit (id : Nat)

/-- How a block of cells may still be used: written · appended to (its content is immutable) · only read. -/
inductive Md where
  | mut | app | ro
  deriving DecidableEq, Inhabited

inductive Blk where
  | cells (m : Md) (cs : List LV)
  | map (es : List (LV × LV))
  /-- a walk over a map: the map, how many entries it held at first, which have been seen, how many it held at the last step -/
  | iter (m : Option Nat) (n0 : Nat) (seen : List Nat) (last : Nat)
  | loop (st : LoopState) (pend : Option Jmp) (env : Env) (ps : List Nat) (assign body : LCode)

structure St where
  n : Nat
  h : Tr Blk

def St.get (s : St) (id : Nat) : Option Blk := s.h.get id
def St.put (s : St) (id : Nat) (b : Blk) : St := { s with h := s.h.set id b }
/-- A new block. -/
def St.new (s : St) (b : Blk) : St := ⟨s.n + 1, s.h.set s.n b⟩
def St.empty : St := ⟨0, .nil⟩

@[simp] theorem St.get_put (s : St) (id j : Nat) (b : Blk) : (s.put id b).get j = if j = id then some b else s.get j := Tr.get_set _ _ _ _
@[simp] theorem St.get_new (s : St) (j : Nat) (b : Blk) : (s.new b).get j = if j = s.n then some b else s.get j := Tr.get_set _ _ _ _
@[simp] theorem St.n_put (s : St) (id : Nat) (b : Blk) : (s.put id b).n = s.n := rfl
@[simp] theorem St.n_new (s : St) (b : Blk) : (s.new b).n = s.n + 1 := rfl
@[simp] theorem St.get_empty (j : Nat) : St.empty.get j = none := rfl

def isCell : LV → Bool
  | .agg _ | .top | .tup _ => false
  | _ => true

/-- The cells of a value of known shape. -/
def cells? : LV → Option (List LV)
  | .agg cs => if cs.all isCell then some cs else none
  | .top | .tup _ => none
  | v => some [v]

def zeroVal : LV := .tup []

/-- Is the value free of ids, to the bottom? -/
def LV.closed : LV → Bool
  | .top => false
  | .bool _ | .int .. | .str _ | .nilp | .nils | .zs | .nilf | .nili | .nilm => true
  | .agg cs => closedAll cs
  | .tup cs => closedAll cs
  | .pimm cs _ => closedAll cs
  | .simm cs _ => closedAll cs
  | .fn _ a b => closedAll a && closedAll b
  | .ifc _ v => v.closed
  | .pref .. | .sref .. | .yld _ | .mref _ => false
where closedAll : List LV → Bool
  | [] => true
  | v :: r => v.closed && closedAll r

/-- 'frz n v s': v with what it refers to taken by value; the blocks that are met are written no more. -/
def frz : Nat → LV → St → Option (LV × St)
  | 0, _, _ => none
  | n + 1, v, s =>
    if v.closed then some (v, s) else
    match v with
    | .agg cs => do let (cs, s) ← frzAll (frz n) cs s; some (.agg cs, s)
    | .tup cs => do let (cs, s) ← frzAll (frz n) cs s; some (.tup cs, s)
    | .ifc t v => do let (v, s) ← frz n v s; some (.ifc t v, s)
    | .fn f a b => do let (a, s) ← frzAll (frz n) a s; let (b, s) ← frzAll (frz n) b s; some (.fn f a b, s)
    | .sref id off len esz =>
      match s.get id with
      | some (.cells m cs) =>
        if off + len * esz ≤ cs.length then do
          let (cs, s) ← frzAll (frz n) cs s
          some (.simm ((cs.drop off).take (len * esz)) len, s.put id (.cells (if m = .mut then .app else m) cs))
        else none
      | _ => none
    | .pref id off =>
      match s.get id with
      | some (.cells m cs) =>
        if off < cs.length then do
          let (cs, s) ← frzAll (frz n) cs s
          some (.pimm cs off, s.put id (.cells (if m = .mut then .app else m) cs))
        else none
      | _ => none
    | _ => none
where frzAll (f : LV → St → Option (LV × St)) : List LV → St → Option (List LV × St)
  | [], s => some ([], s)
  | v :: r, s => do let (v, s) ← f v s; let (r, s) ← frzAll f r s; some (v :: r, s)

/-- The depth to which 'frz' goes. -/
def frzDepth : Nat := 40

/-- Taken by value, if that can be. -/
def frzTry (l : List LV) (s : St) : List LV × St :=
  match frz.frzAll (frz frzDepth) l s with
  | some r => r
  | none => (l, s)

def splice : List LV → Nat → List LV → List LV
  | cs, _, [] => cs
  | cs, off, v :: vs => splice (cs.set off v) (off + 1) vs

theorem splice_length (vs : List LV) : ∀ (cs : List LV) (off : Nat), (splice cs off vs).length = cs.length := by
  induction vs with
  | nil => intros; rfl
  | cons v vs ih => intro cs off; simp [splice, ih]

def mkVal (n : Option Nat) (cs : List LV) (off : Nat) : Option LV :=
  match n with
  | none => cs[off]?
  | some k => if off + k ≤ cs.length then some (.agg ((cs.drop off).take k)) else none

/-- Values put into a row of cells, each at its place. -/
def fillParts : List LV → List (Nat × Nat × LV) → Option (List LV)
  | cs, [] => some cs
  | cs, (off, size, v) :: r =>
    match cells? v with
    | some vs => if vs.length = size ∧ off + size ≤ cs.length then fillParts (splice cs off vs) r else none
    | none => none

def evParts (e : Env) (ls : List (Nat × Nat × Opd)) : List (Nat × Nat × LV) := ls.map fun q => (q.1, q.2.1, q.2.2.ev e)

def intBin (op : BinOp) (k : IntKind) (x y : Int) : Option LV :=
  match op with
  | .add => some (.int k (k.wrap (x + y)))
  | .sub => some (.int k (k.wrap (x - y)))
  | .mul => some (.int k (k.wrap (x * y)))
  | .quo => if y = 0 then none else some (.int k (k.wrap (x.tdiv y)))
  | .rem => if y = 0 then none else some (.int k (x.tmod y))
  | .and => some (.int k (k.wrap ((BitVec.ofInt k.bits x &&& BitVec.ofInt k.bits y).toNat)))
  | .or => some (.int k (k.wrap ((BitVec.ofInt k.bits x ||| BitVec.ofInt k.bits y).toNat)))
  | .xor => some (.int k (k.wrap ((BitVec.ofInt k.bits x ^^^ BitVec.ofInt k.bits y).toNat)))
  | .andNot => some (.int k (k.wrap ((BitVec.ofInt k.bits x &&& ~~~ BitVec.ofInt k.bits y).toNat)))
  | .eql => some (.bool (x == y))
  | .neq => some (.bool (x != y))
  | .lss => some (.bool (x < y))
  | .leq => some (.bool (x ≤ y))
  | .gtr => some (.bool (x > y))
  | .geq => some (.bool (x ≥ y))
  | _ => none

def strBin (op : BinOp) (x y : ByteArray) : Option LV :=
  let eq := x.toList == y.toList
  let lt := Op.bytesLess x.toList y.toList
  match op with
  | .add => if ((x.size + y.size : Nat) : Int) > IntKind.i64.max then none else some (.str (x ++ y))
  | .eql => some (.bool eq)
  | .neq => some (.bool !eq)
  | .lss => some (.bool lt)
  | .leq => some (.bool (lt || eq))
  | .gtr => some (.bool !(lt || eq))
  | .geq => some (.bool !lt)
  | _ => none

def binLV (op : BinOp) : LV → LV → Option LV
  | .int k x, .int k' y =>
    match op with
    | .shl => if y < 0 then none else some (.int k (k.wrap (x * 2 ^ (min y.toNat k.bits))))
    | .shr => if y < 0 then none else some (.int k (x.fdiv (2 ^ (min y.toNat k.bits))))
    | _ => if k = k' then intBin op k x y else none
  | .str x, .str y => strBin op x y
  | _, _ => none

def scEq : EqTy → LV → LV → Option Bool
  | .bool, .bool a, .bool b => some (a == b)
  | .int, .int k a, .int k' b => if k = k' then some (a == b) else none
  | .str, .str a, .str b => some (a == b)
  | _, _, _ => none

def eqLV : EqTy → LV → LV → Option Bool
  | .ptr, .nilp, .nilp => some true
  | .ptr, .nilp, .pimm .. | .ptr, .nilp, .pref .. | .ptr, .pimm .., .nilp | .ptr, .pref .., .nilp => some false
  | .slc, .nils, .zs | .slc, .zs, .nils => some false
  | .slc, .nils, .nils => some true
  | .slc, .nils, .simm .. | .slc, .nils, .sref .. | .slc, .simm .., .nils | .slc, .sref .., .nils => some false
  | .mp, .nilm, .nilm => some true
  | .mp, .nilm, .mref _ | .mp, .mref _, .nilm => some false
  | .fnc, .nilf, .nilf => some true
  | .fnc, .nilf, .fn .. | .fnc, .fn .., .nilf => some false
  | .ifc, .nili, .ifc .. | .ifc, .ifc .., .nili => some false
  | .struct fs, .agg xs, .agg ys => eqFields fs xs ys
  | t, x, y => scEq t x y
where eqFields : List (Nat × Nat × EqTy) → List LV → List LV → Option Bool
  | [], _, _ => some true
  | (off, _, t) :: r, xs, ys =>
    match xs[off]?, ys[off]? with
    | some x, some y =>
      match scEq t x y with
      | some true => eqFields r xs ys
      | some false => some false
      | none => none
    | _, _ => none

def unLV (op : UnOp) : LV → Option LV
  | .int k n => match op with
    | .neg => some (.int k (k.wrap (0 - n)))
    | _ => none
  | .bool b => match op with | .not => some (.bool !b) | _ => none
  | _ => none

def idxOf (len : Nat) : LV → Option Nat
  | .int _ i => if 0 ≤ i ∧ i < len then some i.toNat else none
  | _ => none

def bndOf (d : Nat) (max : Nat) : Option LV → Option Nat
  | none => some d
  | some (.int _ i) => if 0 ≤ i ∧ i ≤ max then some i.toNat else none
  | some _ => none

/-- A limit on what is made: far above what any statement needs, far below where the model's own limits begin. -/
def big : Nat := 2 ^ 32

def rep (n : Nat) (zero : List LV) : List LV := (List.replicate n zero).flatten

def lenLV : LV → Option Nat
  | .nils => some 0
  | .zs => some 0
  | .simm _ n => some n
  | .sref _ _ n _ => some n
  | .str s => some s.size
  | _ => none

def slLen : LV → Option Nat
  | .nils => some 0
  | .zs => some 0
  | .simm _ n => some n
  | .sref _ _ n _ => some n
  | _ => none

/-- The first cells of a slice's elements. -/
def rowOf (s : St) (esz n : Nat) : LV → Option (List LV)
  | .nils => if n = 0 then some [] else none
  | .zs => if n = 0 then some [] else none
  | .simm cs len => if n ≤ len ∧ len * esz = cs.length then some (cs.take (n * esz)) else none
  | .sref id off len e =>
    match s.get id with
    | some (.cells _ cs) => if e = esz ∧ n ≤ len ∧ off + len * esz ≤ cs.length then some ((cs.drop off).take (n * esz)) else none
    | _ => none
  | .str b => if esz = 1 ∧ n ≤ b.size then some ((b.data.toList.take n).map fun x => .int .u8 x.toNat) else none
  | _ => none

def appendLV (esz : Nat) (bytes : Nat) (x : LV) (new : List LV) (k : Nat) (s : St) : Option (LV × St) :=
  match x with
  | .zs => if k = 0 then some (.zs, s) else if k * bytes ≤ big ∧ new.length = k * esz then some (.sref s.n 0 k esz, s.new (.cells .mut new)) else none
  | .nils => if k = 0 then some (.nils, s) else if k * bytes ≤ big ∧ new.length = k * esz then some (.sref s.n 0 k esz, s.new (.cells .mut new)) else none
  | .sref id off len e =>
    if e = esz then
    match s.get id with
    | some (.cells .mut cs) =>
      if off + len * esz ≤ cs.length ∧ (len + k) * bytes ≤ big ∧ new.length = k * esz then
        some (.sref s.n 0 (len + k) esz, ⟨s.n + 1, (s.h.set id (.cells .ro [])).set s.n (.cells .mut ((cs.drop off).take (len * esz) ++ new))⟩)
      else none
    | some (.cells .app cs) =>
      if off + len * esz = cs.length ∧ (len + k) * bytes ≤ big ∧ new.length = k * esz then
        some (.sref s.n 0 (len + k) esz, ⟨s.n + 1, (s.h.set id (.cells .ro cs)).set s.n (.cells .app ((cs.drop off).take (len * esz) ++ new))⟩)
      else none
    | _ => none
    else none
  | _ => none

/-- Is one key the other? -/
def keyEq : LV → LV → Option Bool
  | .int k a, .int k' b => if k = k' then some (a == b) else none
  | .str a, .str b => some (decide (a.data.toList = b.data.toList))
  | _, _ => none

def isIntL : LV → Bool
  | .int .. => true
  | _ => false

/-- Rows of integers, the same. -/
def sameInts : List LV → List LV → Bool
  | [], [] => true
  | .int k a :: r, .int k' b :: r' => k == k' && a == b && sameInts r r'
  | _, _ => false

/-- A key of a kind. -/
def keyOk : KTy → LV → Bool
  | .int k, .int k' _ => k' == k
  | .str, .str _ => true
  | .st es, .agg cs => es.all (fun f => f.1 < cs.length) && cs.all isIntL
  | _, _ => false

def keyEqT : KTy → LV → LV → Option Bool
  | .st es, .agg xs, .agg ys =>
    match eqLV.eqFields es xs ys with
    | some true => if sameInts xs ys then some true else none
    | r => r
  | .st _, _, _ => none
  | _, x, y => keyEq x y

def mfind (kd : KTy) (k : LV) : List (LV × LV) → Nat → Option (Option (Nat × LV))
  | [], _ => some none
  | (k', v) :: r, i =>
    match keyEqT kd k k' with
    | some true => some (some (i, v))
    | some false => mfind kd k r (i + 1)
    | none => none

def bytesOf : List LV → Option (List UInt8)
  | [] => some []
  | .int .u8 n :: r => do some (UInt8.ofNat n.toNat :: (← bytesOf r))
  | _ => none

def minmaxLV (isMax : Bool) : List LV → Option LV
  | .int k x :: rest => (go k x rest).map (.int k)
  | _ => none
where go (k : IntKind) (x : Int) : List LV → Option Int
  | [] => some x
  | .int k' y :: r => if k = k' then go k (if isMax then (if y > x then y else x) else (if y < x then y else x)) r else none
  | _ => none

/-- Is an operation asked for? -/
def wantedG : Option (Nat × Bool) → Env → Option Bool
  | none, _ => some true
  | some (d, want), e => match e.at d with | .bool b => some (b == want) | .tup _ => some false | _ => none

/-- One operation that calls nothing. -/
def LOp.run (o : LOp) (e : Env) (s : St) : Option (LV × St) :=
  match o with
  | .mv x => some (x.ev e, s)
  | .pick c a b => match c.ev e with | .bool t => some (if t then a.ev e else b.ev e, s) | _ => none
  | .box true x => do
    let (v, s) ← frz frzDepth (x.ev e) s
    let cs ← cells? v
    if cs.length = 0 then none else some (.pimm cs 0, s)
  | .box false x => do
    let cs ← cells? (x.ev e)
    some (.pref s.n 0, s.new (.cells .mut cs))
  | .alloc z => some (.pref s.n 0, s.new (.cells .mut z))
  | .build z ps => do
    let cs ← fillParts z (evParts e ps)
    some (.agg cs, s)
  | .bslice esz len z ps => do
    let cs ← fillParts (rep len z) (evParts e ps)
    some (.sref s.n 0 len esz, s.new (.cells .mut cs))
  | .load n x =>
    match x.ev e with
    | .pimm cs off => do some (← mkVal n cs off, s)
    | .pref id off => match s.get id with | some (.cells _ cs) => do some (← mkVal n cs off, s) | _ => none
    | _ => none
  | .store n a x =>
    match a.ev e, cells? (x.ev e) with
    | .pref id off, some vs =>
      match s.get id with
      | some (.cells .mut cs) => if vs.length = n ∧ off + n ≤ cs.length then some (zeroVal, s.put id (.cells .mut (splice cs off vs))) else none
      | _ => none
    | _, _ => none
  | .nilchk x => match x.ev e with | .pimm c o => some (.pimm c o, s) | .pref i o => some (.pref i o, s) | .fn (.func f) a b => some (.fn (.func f) a b, s) | .yld i => some (.yld i, s) | _ => none
  | .bin op x y => do some (← binLV op (x.ev e) (y.ev e), s)
  | .eq neg t x y => do let b ← eqLV t (x.ev e) (y.ev e); some (.bool (if neg then !b else b), s)
  | .un op x => do some (← unLV op (x.ev e), s)
  | .convInt k x => match x.ev e with | .int _ n => some (.int k (k.wrap n), s) | _ => none
  | .convSame x => match x.ev e with | .str b => some (.str b, s) | _ => none
  | .mkfn f a b => some (.fn f (a.map (·.ev e)) (b.map (·.ev e)), s)
  | .mkslice esz bytes z l c =>
    match l.ev e, c.ev e with
    | .int _ l, .int _ c => if 0 ≤ l ∧ l ≤ c ∧ c * bytes ≤ big ∧ c ≤ big ∧ z.length = esz then some (.sref s.n 0 l.toNat esz, s.new (.cells .mut (rep l.toNat z))) else none
    | _, _ => none
  | .slice esz x lo hi =>
    match x.ev e with
    | .zs => do
      let h ← bndOf 0 0 (hi.map (·.ev e)); let l ← bndOf 0 h (lo.map (·.ev e))
      if l = 0 ∧ h = 0 then some (.zs, s) else none
    | .nils => do
      let h ← bndOf 0 0 (hi.map (·.ev e)); let l ← bndOf 0 h (lo.map (·.ev e))
      if l = 0 ∧ h = 0 then some (.nils, s) else none
    | .simm cs len => do
      let h ← bndOf len len (hi.map (·.ev e)); let l ← bndOf 0 h (lo.map (·.ev e))
      if cs.length = len * esz then some (.simm ((cs.drop (l * esz)).take ((h - l) * esz)) (h - l), s) else none
    | .sref id off len es => do
      let h ← bndOf len len (hi.map (·.ev e)); let l ← bndOf 0 h (lo.map (·.ev e))
      if es = esz then some (.sref id (off + l * esz) (h - l) esz, s) else none
    | _ => none
  | .sliceStr x lo hi =>
    match x.ev e with
    | .str b => do
      let h ← bndOf b.size b.size (hi.map (·.ev e)); let l ← bndOf 0 h (lo.map (·.ev e))
      some (.str (b.extract l h), s)
    | _ => none
  | .faddr off x => match x.ev e with | .pimm cs o => some (.pimm cs (o + off), s) | .pref i o => some (.pref i (o + off), s) | _ => none
  | .field off n x => match x.ev e with | .agg cs => do some (← mkVal n cs off, s) | _ => none
  | .iaddr esz x i =>
    match x.ev e with
    | .simm cs len => do let k ← idxOf len (i.ev e); some (.pimm cs (k * esz), s)
    | .sref id off len es => do let k ← idxOf len (i.ev e); if es = esz then some (.pref id (off + k * esz), s) else none
    | _ => none
  | .iaddrArr esz len x i =>
    match x.ev e with
    | .pimm cs o => do let k ← idxOf len (i.ev e); some (.pimm cs (o + k * esz), s)
    | .pref id o => do let k ← idxOf len (i.ev e); some (.pref id (o + k * esz), s)
    | _ => none
  | .indexArr esz len n x i => match x.ev e with | .agg cs => do let k ← idxOf len (i.ev e); some (← mkVal n cs (k * esz), s) | _ => none
  | .indexStr x i => match x.ev e with | .str b => do let k ← idxOf b.size (i.ev e); some (.int .u8 ((b.data.getD k 0).toNat), s) | _ => none
  | .ext x i => match x.ev e with | .tup vs => do some (← vs[i]?, s) | _ => none
  | .lenSl x => do some (.int .i64 (← slLen (x.ev e)), s)
  | .lenStr x => match x.ev e with | .str b => some (.int .i64 b.size, s) | _ => none
  | .lenArr n => some (.int .i64 n, s)
  | .append esz bytes x y => do
    let n ← lenLV (y.ev e)
    let new ← rowOf s esz n (y.ev e)
    let (new, s) := frzTry new s
    appendLV esz bytes (x.ev e) new n s
  | .copy esz x y => do
    let n ← lenLV (y.ev e)
    match x.ev e with
    | .sref id off len es =>
      let k := min n len
      let new ← rowOf s esz k (y.ev e)
      match s.get id with
      | some (.cells .mut cs) => if es = esz ∧ off + len * esz ≤ cs.length then some (.int .i64 k, s.put id (.cells .mut (splice cs off new))) else none
      | _ => none
    | .nils => some (.int .i64 0, s)
    | _ => none
  | .sliceZ x lo hi mx =>
    match lo.ev e, hi.ev e, mx.ev e, slLen (x.ev e) with
    | .int _ l, .int _ h, .int _ m, some len =>
      if l = h ∧ h = m ∧ 0 ≤ l ∧ l ≤ len then (match x.ev e with | .nils => some (.nils, s) | .top => none | _ => some (.zs, s)) else none
    | _, _, _, _ => none
  | .bytesStr x => do
    let n ← slLen (x.ev e)
    let cs ← rowOf s 1 n (x.ev e)
    let bs ← bytesOf cs
    some (.str ⟨bs.toArray⟩, s)
  | .mkmap x =>
    match x with
    | none => some (.mref s.n, s.new (.map []))
    | some y => match y.ev e with | .int _ _ => some (.mref s.n, s.new (.map [])) | _ => none
  | .mlook kd zero ok m k =>
    if keyOk kd (k.ev e) then
    match m.ev e with
    | .nilm => some (if ok then .tup [zero, .bool false] else zero, s)
    | .mref id =>
      match s.get id with
      | some (.map es) => do
        let r ← mfind kd (k.ev e) es 0
        let (v, b) := match r with | some (_, v) => (v, true) | none => (zero, false)
        some (if ok then .tup [v, .bool b] else v, s)
      | _ => none
    | _ => none
    else none
  | .mupd kd m k v =>
    if keyOk kd (k.ev e) then
    match m.ev e with
    | .mref id =>
      match s.get id with
      | some (.map es) => do
        let r ← mfind kd (k.ev e) es 0
        match r with
        | some (i, _) => some (zeroVal, s.put id (.map (es.set i (k.ev e, v.ev e))))
        | none => some (zeroVal, s.put id (.map (es ++ [(k.ev e, v.ev e)])))
      | _ => none
    | _ => none
    else none
  | .lenMap x =>
    match x.ev e with
    | .nilm => some (.int .i64 0, s)
    | .mref id => match s.get id with | some (.map es) => some (.int .i64 es.length, s) | _ => none
    | _ => none
  | .capZ x => match x.ev e with | .nils => some (.int .i64 0, s) | .zs => some (.int .i64 0, s) | _ => none
  | .appz esz bytes z x n =>
    match x.ev e, n.ev e with
    | .nils, .int _ k =>
      if k = 0 then some (.nils, s)
      else if 0 < k ∧ k * bytes ≤ big ∧ k ≤ big then some (.sref s.n 0 k.toNat esz, s.new (.cells .mut (rep k.toNat z))) else none
    | _, _ => none
  | .mrange x =>
    match x.ev e with
    | .nilm => some (.pref s.n 0, s.new (.iter none 0 [] 0))
    | .mref id => match s.get id with | some (.map es) => some (.pref s.n 0, s.new (.iter (some id) es.length [] es.length)) | _ => none
    | _ => none
  | .mnext _ => none
  | .mentry x =>
    match x.ev e with
    | .pref id 0 =>
      match s.get id with
      | some (.iter (some m) _ seen last) =>
        match s.get m with
        | some (.map es) =>
          match seen.getLast? with
          | some i => if es.length = last ∧ i < es.length then some (.tup [(es.getD i default).1, (es.getD i default).2], s) else none
          | none => none
        | _ => none
      | _ => none
    | _ => none
  | .minmax m xs => do some (← minmaxLV m (xs.map (·.ev e)), s)
  | .call .. => none

/-- The temporaries that an operation reads. -/
def Opd.tmps : Opd → List Nat
  | .t i => [i]
  | .c _ => []
def optTmps : Option Opd → List Nat
  | some x => x.tmps
  | none => []
def LOp.tmps : LOp → List Nat
  | .mv x | .box _ x | .load _ x | .nilchk x | .un _ x | .convInt _ x | .convSame x | .faddr _ x | .field _ _ x | .ext x _ | .lenSl x | .lenStr x | .bytesStr x | .lenMap x | .capZ x | .mrange x | .mnext x | .mentry x => x.tmps
  | .pick a b c => a.tmps ++ b.tmps ++ c.tmps
  | .alloc _ | .lenArr _ => []
  | .mkmap x => optTmps x
  | .sliceZ a b c d => a.tmps ++ b.tmps ++ c.tmps ++ d.tmps
  | .mlook _ _ _ a b => a.tmps ++ b.tmps
  | .mupd _ a b c => a.tmps ++ b.tmps ++ c.tmps
  | .build _ ps | .bslice _ _ _ ps => ps.flatMap fun q => q.2.2.tmps
  | .store _ a b | .bin _ a b | .eq _ _ a b | .iaddr _ a b | .iaddrArr _ _ a b | .indexArr _ _ _ a b | .indexStr a b | .append _ _ a b | .appz _ _ _ a b | .copy _ a b | .mkslice _ _ _ a b => a.tmps ++ b.tmps
  | .mkfn _ a b => a.flatMap (·.tmps) ++ b.flatMap (·.tmps)
  | .slice _ x a b | .sliceStr x a b => x.tmps ++ optTmps a ++ optTmps b
  | .minmax _ xs => xs.flatMap (·.tmps)
  | .call f as => f.tmps ++ as.flatMap (·.tmps)

end Go.Pv
