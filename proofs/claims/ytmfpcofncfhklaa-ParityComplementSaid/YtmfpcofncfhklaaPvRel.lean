/- How a plain value stands to a value of the machine, and a small heap to a world. -/
import Derived.Test.YtmfpcofncfhklaaPvCore
import Derived.Laws.Sem
import Derived.Below
namespace Go.Pv
open Go Go.RowKit

structure Place where
  b : Nat
  off : Nat
  cap : Nat

abbrev Mu := Nat → Option Place
/-- Cells that are never written again: block and offset. -/
abbrev Io := Nat → Nat → Prop

inductive Rv (μ : Mu) (ι : Io) (w : World) : LV → Value → Prop where
  | top (v : Value) : Rv μ ι w .top v
  | bool (b : Bool) : Rv μ ι w (.bool b) (.bool b)
  | int (k : IntKind) (n : Int) : Rv μ ι w (.int k n) (.int k n)
  | str (s : ByteArray) : Rv μ ι w (.str s) (.string s)
  | agg {cs : List LV} {vs : Array Value} (hl : vs.size = cs.length) (h : ∀ i, i < cs.length → Rv μ ι w (cs.getD i .top) (vs.getD i undef)) : Rv μ ι w (.agg cs) (.agg vs)
  | tup {cs : List LV} {vs : Array Value} (hl : vs.size = cs.length) (h : ∀ i, i < cs.length → Rv μ ι w (cs.getD i .top) (vs.getD i undef)) : Rv μ ι w (.tup cs) (.tuple vs)
  | nilp : Rv μ ι w .nilp (.pointer none)
  | pimm {cs : List LV} {off b o : Nat} (vs : Nat → Value) (hc : ∀ i, i < cs.length → w.cell? ⟨b, o + i, none⟩ = some (vs i))
      (hi : ∀ i, i < cs.length → ι b (o + i)) (h1 : ∀ i, i < cs.length → (vs i).oneCell' = true) (h : ∀ i, i < cs.length → Rv μ ι w (cs.getD i .top) (vs i)) : Rv μ ι w (.pimm cs off) (.pointer (some ⟨b, o + off, none⟩))
  | pref {id off : Nat} {p : Place} (hp : μ id = some p) : Rv μ ι w (.pref id off) (.pointer (some ⟨p.b, p.off + off, none⟩))
  | nils : Rv μ ι w .nils (.slice none 0 0)
  | zs (a : Addr) : Rv μ ι w .zs (.slice (some a) 0 0)
  | simm {cs : List LV} {len b o cap : Nat} (vs : Nat → Value) (hc : ∀ i, i < cs.length → w.cell? ⟨b, o + i, none⟩ = some (vs i))
      (hi : ∀ i, i < cs.length → ι b (o + i)) (h1 : ∀ i, i < cs.length → (vs i).oneCell' = true) (h : ∀ i, i < cs.length → Rv μ ι w (cs.getD i .top) (vs i)) (hlc : len ≤ cap) : Rv μ ι w (.simm cs len) (.slice (some ⟨b, o, none⟩) len cap)
  | sref {id off len esz cap : Nat} {p : Place} {off' : Nat} (hp : μ id = some p) (hcap : off + cap * esz ≤ p.cap) (hlc : len ≤ cap) (had : cap ≠ 0 → off' = off) :
      Rv μ ι w (.sref id off len esz) (.slice (some ⟨p.b, p.off + off', none⟩) len cap)
  | fn {f : Fn} {a b : List LV} {va vb : Array Value} (hl : va.size = a.length) (hl' : vb.size = b.length) (h : ∀ i, i < a.length → Rv μ ι w (a.getD i .top) (va.getD i undef))
      (h' : ∀ i, i < b.length → Rv μ ι w (b.getD i .top) (vb.getD i undef)) : Rv μ ι w (.fn f a b) (.func f va vb)
  | nilf : Rv μ ι w .nilf .nilFunc
  | yld {id : Nat} {p : Place} (hp : μ id = some p) : Rv μ ι w (.yld id) (.func (.yield p.b) #[] #[])
  | ifc {t : TypeId} {v : LV} {x : Value} (h : Rv μ ι w v x) : Rv μ ι w (.ifc t v) (.iface t x)
  | nili : Rv μ ι w .nili .nilIface
  | nilm : Rv μ ι w .nilm (.map none)
  | mref {id : Nat} {p : Place} (hp : μ id = some p) : Rv μ ι w (.mref id) (.map (some p.b))

theorem Rv.mono {μ μ' : Mu} {ι ι' : Io} {w w' : World} (hw : ∀ b o, ι b o → w'.cell? ⟨b, o, none⟩ = w.cell? ⟨b, o, none⟩)
    (hμ : ∀ id p, μ id = some p → μ' id = some p) (hι : ∀ b o, ι b o → ι' b o) {v : LV} {x : Value} (h : Rv μ ι w v x) : Rv μ' ι' w' v x := by
  induction h with
  | top v => exact .top v
  | bool b => exact .bool b
  | int k n => exact .int k n
  | str s => exact .str s
  | agg hl _ ih => exact .agg hl ih
  | tup hl _ ih => exact .tup hl ih
  | nilp => exact .nilp
  | pimm vs hc hi h1 _ ih => exact .pimm vs (fun i h => (hw _ _ (hi i h)).trans (hc i h)) (fun i h => hι _ _ (hi i h)) h1 ih
  | pref hp => exact .pref (hμ _ _ hp)
  | nils => exact .nils
  | zs a => exact .zs a
  | simm vs hc hi h1 _ hlc ih => exact .simm vs (fun i h => (hw _ _ (hi i h)).trans (hc i h)) (fun i h => hι _ _ (hi i h)) h1 ih hlc
  | sref hp hcap hlc had => exact .sref (hμ _ _ hp) hcap hlc had
  | fn hl hl' _ _ ih ih' => exact .fn hl hl' ih ih'
  | nilf => exact .nilf
  | yld hp => exact .yld (hμ _ _ hp)
  | ifc _ ih => exact .ifc ih
  | nili => exact .nili
  | nilm => exact .nilm
  | mref hp => exact .mref (hμ _ _ hp)

/-- Values side by side. -/
def Rs (μ : Mu) (ι : Io) (w : World) (cs : List LV) (vs : List Value) : Prop := vs.length = cs.length ∧ ∀ i, i < cs.length → Rv μ ι w (cs.getD i .top) (vs.getD i undef)

/-- The temporaries. -/
def Re (μ : Mu) (ι : Io) (w : World) (e : Env) (tmps : Array Value) : Prop := ∀ t, Rv μ ι w (e.at t) (tmps.getD t undef)

def Jmp.code : Jmp → Code
  | .ret => .ret
  | .exit id => .exit id

def isKeyL : LV → Bool
  | .int .. | .str _ | .agg _ => true
  | _ => false

/-- What a block of the small heap says of the world, at its place. ('compile' says of two codes that one is the other's plain form.) -/
def Rb (cmp : Nat → LCode → Code → Prop) (μ : Mu) (ι : Io) (w : World) (p : Place) : Blk → Prop
  | .cells m cs => (∃ x, w.shape? p.b = some x) ∧ cs.length ≤ p.cap ∧
      (∀ i, i < p.cap → ∃ v, w.cell? ⟨p.b, p.off + i, none⟩ = some v ∧ v.oneCell' = true ∧ (i < cs.length → Rv μ ι w (cs.getD i .top) v)) ∧
      (∀ i, i < p.cap → w.frozen? ⟨p.b, p.off + i, none⟩ = false) ∧
      (m ≠ .mut → ∀ i, i < cs.length → ι p.b (p.off + i)) ∧
      (m = .mut → ∀ i, i < p.cap → ¬ ι p.b (p.off + i)) ∧
      (m = .app → ∀ i, cs.length ≤ i → i < p.cap → ¬ ι p.b (p.off + i))
  | .map es => ∃ arr, w.heap[p.b]? = some (.map arr es.length) ∧ arr.size = es.length ∧ ∀ i, i < es.length → ((arr.getD i default).born = i ∧ isKeyL (es.getD i default).1 = true ∧ Rv μ ι w (es.getD i default).1 (arr.getD i default).key ∧ Rv μ ι w (es.getD i default).2 (arr.getD i default).val)
  | .iter m n0 seen last => p.off = 0 ∧ ∃ pb, w.heap[p.b]? = some (.mapIter pb n0 seen.toArray last) ∧ (match m with | none => pb = none | some id => ∃ pm, μ id = some pm ∧ pb = some pm.b)
  | .loop st pend env ps assign body => ∃ L : Loop, w.heap[p.b]? = some (.loop L) ∧ L.state = st ∧ L.pending = pend.map Jmp.code ∧ Re μ ι w env L.tmps ∧
      (∀ i ∈ ps, i < L.tmps.size) ∧ L.params = ps.toArray ∧ cmp L.tmps.size assign L.assign ∧ cmp L.tmps.size body L.body

/-- Does the block own a block of the world? -/
def Blk.owns : Blk → Bool
  | .cells .ro _ => false
  | _ => true

/-- What is given at the beginning: the world, and which of its cells are never written. -/
structure Bs where
  w : World
  κ : Io
def Bs.heap (w0 : Bs) : Array Obj := w0.w.heap

structure Inv (cmp : Nat → LCode → Code → Prop) (w0 : Bs) (μ : Mu) (ι : Io) (δ : Nat → Prop) (s : St) (w : World) : Prop where
  below : Below w0.heap.size w0.w w
  dom : ∀ id p, μ id = some p → id < s.n ∧ w0.heap.size ≤ p.b ∧ p.b < w.heap.size
  io : ∀ b o, ι b o → ∃ v, w.cell? ⟨b, o, none⟩ = some v
  blk : ∀ id b p, s.get id = some b → μ id = some p → Rb cmp μ ι w p b
  sep : ∀ id id' b b' p p', s.get id = some b → s.get id' = some b' → b.owns = true → b'.owns = true → μ id = some p → μ id' = some p' → p.b = p'.b → id = id'
  defers : ∀ r, δ r → w0.heap.size ≤ r ∧ w.heap[r]? = some (.deferred (some []))
  low : ∀ b o, ι b o → b < w0.heap.size → w0.κ b o

/-- From one state of the small heap to a later one: what has no place in the world is as it was, and gets none. -/
structure Kept (μ : Mu) (s : St) (μ' : Mu) (s' : St) : Prop where
  n : s.n ≤ s'.n
  get : ∀ id, id < s.n → μ id = none → s'.get id = s.get id
  free : ∀ id, id < s.n → μ id = none → μ' id = none

theorem Kept.refl (μ : Mu) (s : St) : Kept μ s μ s := ⟨Nat.le_refl _, fun _ _ _ => rfl, fun _ _ h => h⟩

structure Ext (μ : Mu) (ι : Io) (δ : Nat → Prop) (w : World) (μ' : Mu) (ι' : Io) (δ' : Nat → Prop) (w' : World) : Prop where
  mu : ∀ id p, μ id = some p → μ' id = some p
  io : ∀ b o, ι b o → ι' b o
  cell : ∀ b o, ι b o → w'.cell? ⟨b, o, none⟩ = w.cell? ⟨b, o, none⟩
  size : w.heap.size ≤ w'.heap.size
  de : ∀ r, δ r → δ' r

theorem Ext.refl (μ : Mu) (ι : Io) (δ : Nat → Prop) (w : World) : Ext μ ι δ w μ ι δ w := ⟨fun _ _ h => h, fun _ _ h => h, fun _ _ _ => rfl, Nat.le_refl _, fun _ h => h⟩

theorem Ext.trans {μ μ' μ'' : Mu} {ι ι' ι'' : Io} {δ δ' δ'' : Nat → Prop} {w w' w'' : World} (h : Ext μ ι δ w μ' ι' δ' w') (k : Ext μ' ι' δ' w' μ'' ι'' δ'' w'') : Ext μ ι δ w μ'' ι'' δ'' w'' :=
  ⟨fun i p h1 => k.mu i p (h.mu i p h1), fun b o h1 => k.io b o (h.io b o h1), fun b o h1 => (k.cell b o (h.io b o h1)).trans (h.cell b o h1), Nat.le_trans h.size k.size, fun r h1 => k.de r (h.de r h1)⟩

section
variable {cmp : Nat → LCode → Code → Prop} {w0 : Bs} {μ μ' : Mu} {ι ι' : Io} {δ δ' : Nat → Prop} {w w' : World} {s s' : St}

theorem Rv.ext (h : Ext μ ι δ w μ' ι' δ' w') {v : LV} {x : Value} (hv : Rv μ ι w v x) : Rv μ' ι' w' v x := hv.mono h.cell h.mu h.io
theorem Re.ext (h : Ext μ ι δ w μ' ι' δ' w') {e : Env} {t : Array Value} (hv : Re μ ι w e t) : Re μ' ι' w' e t := fun i => (hv i).ext h
theorem Rs.ext (h : Ext μ ι δ w μ' ι' δ' w') {e : List LV} {t : List Value} (hv : Rs μ ι w e t) : Rs μ' ι' w' e t := ⟨hv.1, fun i hi => (hv.2 i hi).ext h⟩

theorem Re.put {e : Env} {a : Act} (h : Re μ ι w e a.tmps) {d : Option Nat} (hd : ∀ t, d = some t → t < a.tmps.size) {v : LV} {x : Value} (hv : Rv μ ι w v x) :
    Re μ ι w (Env.put e d v) (a.put d x).tmps := by
  cases d with
  | none => exact h
  | some d =>
    intro t
    have hd' := hd d rfl
    simp only [Env.put_some, Env.at_set, Act.put]
    by_cases e : t = d
    · subst e
      simp [Array.getD_eq_getD_getElem?, hd', hv]
    · rw [if_neg e]
      have := h t
      simpa [Array.getD_eq_getD_getElem?, Array.getElem?_setIfInBounds, Ne.symm e] using this

@[simp] theorem Act.put_size (a : Act) (d : Option Nat) (x : Value) : (a.put d x).tmps.size = a.tmps.size := by
  cases d <;> simp [Act.put]
@[simp] theorem Act.put_defers' (a : Act) (d : Option Nat) (x : Value) : (a.put d x).defers = a.defers := by
  cases d <;> simp [Act.put]

end
end Go.Pv
