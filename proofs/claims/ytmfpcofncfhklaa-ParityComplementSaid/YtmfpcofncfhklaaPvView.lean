/- Lists of numbers, and lists of these, as plain values. -/
import Derived.Test.YtmfpcofncfhklaaPvWp
set_option linter.unusedSimpArgs false
set_option linter.unusedVariables false
namespace Go.Pv
open Go

def ints (l : List Int) : List LV := l.map (LV.int .i64)
@[simp] theorem ints_length (l : List Int) : (ints l).length = l.length := by simp [ints]
theorem ints_closed (l : List Int) : LV.closed.closedAll (ints l) = true := by
  induction l with
  | nil => rfl
  | cons x l ih => simpa [ints, LV.closed.closedAll, LV.closed] using ih
theorem ints_get {l : List Int} {i : Nat} (h : (i : Int) < (l.length : Int)) : (ints l)[i]? = some (.int .i64 (l.getD i 0)) := by
  have h : i < l.length := by omega
  simp [ints, List.getD_eq_getElem?_getD, h]

def inI64 (x : Int) : Prop := -9223372036854775808 ≤ x ∧ x ≤ 9223372036854775807

structure IsInts (v : LV) (l : List Int) : Prop where
  sl : Sl v (ints l) l.length
  len : l.length ≤ maxLen
  rng : ∀ x ∈ l, inI64 x

structure IsRows (v : LV) (ls : List (List Int)) (vs : List LV) : Prop where
  sl : Sl v vs ls.length
  vlen : vs.length = ls.length
  len : ls.length ≤ maxLen
  row : ∀ i, i < ls.length → IsInts (vs.getD i .top) (ls.getD i [])

theorem IsInts.closed {v : LV} {l : List Int} (h : IsInts v l) : v.closed = true := h.sl.closed (ints_closed l)

theorem closedAll_of : ∀ {vs : List LV}, (∀ i, i < vs.length → (vs.getD i .top).closed = true) → LV.closed.closedAll vs = true := by
  intro vs
  induction vs with
  | nil => intro _; rfl
  | cons v vs ih =>
    intro h
    simp only [LV.closed.closedAll, Bool.and_eq_true]
    exact ⟨by simpa using h 0 (by simp), ih fun i hi => by simpa using h (i + 1) (by simpa using hi)⟩

theorem IsRows.closed {v : LV} {ls : List (List Int)} {vs : List LV} (h : IsRows v ls vs) : v.closed = true :=
  h.sl.closed (closedAll_of fun i hi => (h.row i (by rw [← h.vlen]; exact hi)).closed)

theorem IsRows.get {v : LV} {ls : List (List Int)} {vs : List LV} (h : IsRows v ls vs) {i : Nat} (hi : i < ls.length) : vs[i]? = some (vs.getD i .top) := by
  rw [List.getD_eq_getElem?_getD, List.getElem?_eq_getElem (by rw [h.vlen]; exact hi)]; rfl

theorem isC_int (k : IntKind) (n : Int) : isCell (.int k n) = true := rfl
theorem isC_bool (b : Bool) : isCell (.bool b) = true := rfl
theorem isC_str (s : ByteArray) : isCell (.str s) = true := rfl
theorem isC_nils : isCell .nils = true := rfl
theorem isC_zs : isCell .zs = true := rfl
theorem isC_simm (cs : List LV) (n : Nat) : isCell (.simm cs n) = true := rfl
theorem isC_sref (i o n e : Nat) : isCell (.sref i o n e) = true := rfl
theorem isC_pref (i o : Nat) : isCell (.pref i o) = true := rfl
theorem isC_pimm (cs : List LV) (o : Nat) : isCell (.pimm cs o) = true := rfl
theorem isC_mref (i : Nat) : isCell (.mref i) = true := rfl
theorem isC_fn (f : Fn) (a b : List LV) : isCell (.fn f a b) = true := rfl
theorem cells_agg (cs : List LV) : cells? (.agg cs) = if cs.all isCell then some cs else none := rfl
theorem cells_cell {v : LV} (h : isCell v = true) : cells? v = some [v] := by cases v <;> first | rfl | cases h

def iaLV (esz : Nat) (v i : LV) (s : St) : Option (LV × St) :=
  match v with
  | .simm cs len => do let k ← idxOf len i; some (.pimm cs (k * esz), s)
  | .sref id off len es => do let k ← idxOf len i; if es = esz then some (.pref id (off + k * esz), s) else none
  | _ => none
theorem run_iaddr (esz : Nat) (x i : Opd) (e : Env) (s : St) : (LOp.iaddr esz x i).run e s = iaLV esz (x.ev e) (i.ev e) s := rfl
theorem iaN {v : LV} {cs : List LV} {n : Nat} (h : Sl v cs n) {esz : Nat} {k : IntKind} {s : St} {i : Nat} (hi : (i : Int) < (n : Int)) : iaLV esz v (.int k (i : Int)) s = some (.pimm cs (i * esz), s) := by
  have hi' : i < n := by omega
  rw [h.pos (by omega)]
  simp [iaLV, idxOf, hi']
theorem iaI {v : LV} {cs : List LV} {n : Nat} (h : Sl v cs n) {esz : Nat} {k : IntKind} {s : St} {a : Int} (h0 : 0 ≤ a) (hi : a < (n : Int)) : iaLV esz v (.int k a) s = some (.pimm cs (a.toNat * esz), s) := by
  rw [h.pos (by omega)]
  simp [iaLV, idxOf, h0, hi]

theorem wrap_small {n : Int} (h : inI64 n) : IntKind.i64.wrap n = n := wrap_i64 n h.1 h.2
theorem wrap_succ {i n : Nat} (h : (i : Int) < (n : Int)) (hn : n ≤ maxLen) : IntKind.i64.wrap ((i : Int) + 1) = ((i + 1 : Nat) : Int) := by
  have hm : maxLen = 9223372036854775807 := by decide
  rw [wrap_i64 _ (by omega) (by omega)]; simp

theorem getD_mem {α : Type} {l : List α} {i : Nat} {d : α} (h : i < l.length) : l.getD i d ∈ l := by
  simp [List.getD_eq_getElem?_getD, h]

/-! From what a reading gives. -/
theorem hasC_ints {v : LV} (h : HasC (.sl [.int .i64]) v) : ∃ l, IsInts v l := by
  cases h with
  | nil => exact ⟨[], .nil, by simp, fun x hx => by cases hx⟩
  | zs => exact ⟨[], .zs, by simp, fun x hx => by cases hx⟩
  | sl hn hs =>
    rename_i rows
    have key : ∀ {rows : List (List LV)}, HasRs [.int .i64] rows → ∃ l : List Int, rows.flatten = ints l ∧ l.length = rows.length ∧ ∀ x ∈ l, inI64 x := by
      intro rows
      induction rows with
      | nil => intro _; exact ⟨[], rfl, rfl, fun x hx => by cases hx⟩
      | cons r rs ih =>
        intro h
        cases h with
        | cons h hs =>
          obtain ⟨l, h1, h2, h3⟩ := ih hs
          cases h with
          | cons h hn =>
            cases hn
            cases h with
            | int hw =>
              rename_i n
              refine ⟨n :: l, by simp [ints, h1], by simp [h2], fun x hx => ?_⟩
              rcases List.mem_cons.1 hx with rfl | hx
              · simpa [Lit.wf, IntKind.min, IntKind.max, IntKind.signed, IntKind.bits, inI64] using hw
              · exact h3 x hx
    obtain ⟨l, h1, h2, h3⟩ := key hs
    refine ⟨l, ?_, by rw [h2]; exact hn, h3⟩
    rw [h1, ← h2]
    exact .simm _ _

theorem hasC_rows {v : LV} (h : HasC (.sl [.sl [.int .i64]]) v) : ∃ ls vs, IsRows v ls vs := by
  cases h with
  | nil => exact ⟨[], [], .nil, rfl, by simp, fun i hi => absurd hi (Nat.not_lt_zero _)⟩
  | zs => exact ⟨[], [], .zs, rfl, by simp, fun i hi => absurd hi (Nat.not_lt_zero _)⟩
  | sl hn hs =>
    have key : ∀ {rows : List (List LV)}, HasRs [.sl [.int .i64]] rows → ∃ ls : List (List Int), ls.length = rows.length ∧ rows.flatten.length = rows.length ∧ ∀ i, i < ls.length → IsInts (rows.flatten.getD i .top) (ls.getD i []) := by
      intro rows
      induction rows with
      | nil => intro _; exact ⟨[], rfl, rfl, fun i hi => absurd hi (Nat.not_lt_zero _)⟩
      | cons r rs ih =>
        intro h
        cases h with
        | cons h hs =>
          obtain ⟨ls, h1, h2, h3⟩ := ih hs
          cases h with
          | cons h hn =>
            cases hn
            obtain ⟨l, hl⟩ := hasC_ints h
            refine ⟨l :: ls, by simp [h1], by simp [h2], fun i hi => ?_⟩
            cases i with
            | zero => simpa using hl
            | succ i => simpa using h3 i (by simpa using hi)
    obtain ⟨ls, h1, h2, h3⟩ := key hs
    refine ⟨ls, _, ?_, by rw [h2, h1], by rw [h1]; exact hn, h3⟩
    rw [h1]
    exact .simm _ _

theorem hasC_int {v : LV} (h : HasC (.int .i64) v) : ∃ n, v = .int .i64 n ∧ inI64 n := by
  cases h with
  | int hw => exact ⟨_, rfl, by simpa [Lit.wf, IntKind.min, IntKind.max, IntKind.signed, IntKind.bits, inI64] using hw⟩
end Go.Pv
namespace Go.Pv
open Go
theorem IsRows.getI {v : LV} {ls : List (List Int)} {vs : List LV} (h : IsRows v ls vs) {i : Nat} (hi : (i : Int) < (ls.length : Int)) : vs[i]? = some (vs.getD i .top) := h.get (by omega)
theorem IsRows.rlen {v : LV} {ls : List (List Int)} {vs : List LV} (h : IsRows v ls vs) {i : Nat} (hi : (i : Int) < (ls.length : Int)) : slLen (vs.getD i .top) = some (ls.getD i []).length := (h.row i (by omega)).sl.len
theorem IsRows.ria {v : LV} {ls : List (List Int)} {vs : List LV} (h : IsRows v ls vs) {i : Nat} (hi : (i : Int) < (ls.length : Int)) {esz : Nat} {k : IntKind} {s : St} {j : Nat} (hj : (j : Int) < ((ls.getD i []).length : Int)) :
    iaLV esz (vs.getD i .top) (.int k (j : Int)) s = some (.pimm (ints (ls.getD i [])) (j * esz), s) := iaN (h.row i (by omega)).sl hj
end Go.Pv
