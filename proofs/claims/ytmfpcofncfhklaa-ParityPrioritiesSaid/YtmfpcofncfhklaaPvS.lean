/- Rules that go together. -/
import Derived.Test.YtmfpcofncfhklaaPvQ2
set_option linter.unusedSimpArgs false
set_option linter.unusedVariables false
namespace Go.Pv
open Go
theorem lk : (∀ (e : Env) (i : Nat), (Opd.t i).ev e = e.at i) ∧ (∀ (e : Env) (v : LV), (Opd.c v).ev e = v) ∧ (∀ (e : Env) (i j : Nat) (v : LV), Env.at (Tr.set e i v) j = if j = i then v else Env.at e j) :=
  ⟨fun _ _ => rfl, fun _ _ => rfl, Env.at_set⟩
theorem sv1 : (∀ {v : LV} {s : St}, v.closed = true → frz frzDepth v s = some (v, s)) ∧ (∀ cs : List LV, cells? (.agg cs) = if cs.all isCell then some cs else none) ∧ (∀ {v : LV}, isCell v = true → cells? v = some [v]) ∧
    (∀ (k : IntKind) (n : Int), isCell (.int k n) = true) ∧ (∀ b : Bool, isCell (.bool b) = true) ∧ (∀ s : ByteArray, isCell (.str s) = true) ∧ isCell .nils = true ∧ isCell .zs = true ∧ (∀ (cs : List LV) (n : Nat), isCell (.simm cs n) = true) ∧
    (∀ i o n e : Nat, isCell (.sref i o n e) = true) ∧ (∀ i o : Nat, isCell (.pref i o) = true) ∧ (∀ (cs : List LV) (o : Nat), isCell (.pimm cs o) = true) ∧ (∀ i : Nat, isCell (.mref i) = true) ∧ (∀ (f : Fn) (a b : List LV), isCell (.fn f a b) = true) :=
  ⟨frzD_closed, cells_agg, cells_cell, isC_int, isC_bool, isC_str, isC_nils, isC_zs, isC_simm, isC_sref, isC_pref, isC_pimm, isC_mref, isC_fn⟩
theorem sv2 : (∀ n : Nat, 0 + n = n) ∧ (∀ n : Nat, n + 0 = n) ∧ (∀ n : Nat, n * 1 = n) ∧ (∀ n : Nat, (n ≤ n) = True) ∧ ((!true) = false) ∧ ((!false) = true) ∧ ((false = true) = False) ∧ ((true = false) = False) ∧ (∀ b : Bool, (b && b) = b) :=
  ⟨Nat.zero_add, Nat.add_zero, Nat.mul_one, fun n => by simp, rfl, rfl, by simp, by simp, Bool.and_self⟩
theorem sv3 : (∀ (α : Type) (x : α) (l : List α), (x :: l)[0]? = some x) ∧ (∀ (α : Type) (x : α) (l : List α) (i : Nat), (x :: l)[i + 1]? = l[i]?) ∧ (∀ (α : Type) (x : α) (l : List α), (x :: l).length = l.length + 1) ∧ (∀ α : Type, ([] : List α).length = 0) ∧
    (∀ (α : Type) (l : List α), l.drop 0 = l) ∧ (∀ (α : Type) (x : α) (l : List α) (i : Nat), (x :: l).drop (i + 1) = l.drop i) ∧ (∀ (α : Type) (x : α) (l : List α) (i : Nat), (x :: l).take (i + 1) = x :: l.take i) ∧ (∀ (α : Type) (l : List α), l.take 0 = []) ∧ (∀ (α : Type) (i : Nat), ([] : List α).take i = []) ∧
    (∀ (α : Type) (p : α → Bool) (x : α) (l : List α), (x :: l).all p = (p x && l.all p)) ∧ (∀ (α : Type) (p : α → Bool), ([] : List α).all p = true) ∧
    (∀ (α β : Type) (a : α) (f : α → Option β), (some a).bind f = f a) ∧ (∀ (α β : Type) (a : α) (f : α → β), (some a).map f = some (f a)) ∧ (∀ (α β : Type) (x : Option α) (f : α → Option β), (x >>= f) = x.bind f) :=
  ⟨fun _ _ _ => rfl, fun _ _ _ _ => rfl, fun _ _ _ => rfl, fun _ => rfl, fun _ _ => rfl, fun _ _ _ _ => rfl, fun _ _ _ _ => rfl, fun _ _ => rfl, fun _ i => by cases i <;> rfl, fun _ _ _ _ => rfl, fun _ _ => rfl, fun _ _ _ _ => rfl, fun _ _ _ _ => rfl, fun _ _ _ _ => rfl⟩
end Go.Pv
