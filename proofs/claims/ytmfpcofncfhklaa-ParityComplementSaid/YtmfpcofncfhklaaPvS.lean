/- Rules that go together. -/
import Derived.Test.YtmfpcofncfhklaaPvQ2
set_option linter.unusedSimpArgs false
set_option linter.unusedVariables false
namespace Go.Pv
open Go
theorem lk : (∀ (e : Env) (i : Nat), (Opd.t i).ev e = e.at i) ∧ (∀ (e : Env) (v : LV), (Opd.c v).ev e = v) ∧ (∀ (e : Env) (i j : Nat) (v : LV), Env.at (Tr.set e i v) j = if j = i then v else Env.at e j) :=
  ⟨fun _ _ => rfl, fun _ _ => rfl, Env.at_set⟩
theorem sv1 : (∀ {v : LV} {s : St}, v.closed = true → frz frzDepth v s = some (v, s)) ∧ (∀ cs : List LV, cells? (.agg cs) = if cs.all isCell then some cs else none) ∧ (∀ {v : LV}, isCell v = true → cells? v = some [v]) ∧
    (∀ (k : IntKind) (n : Int), isCell (.int k n) = true) ∧ (∀ b : Bool, isCell (.bool b) = true) ∧ (∀ s : ByteArray, isCell (.str s) = true) ∧ isCell .nils = true ∧ isCell .zs = true ∧ (∀ (cs : List LV) (n : Nat), isCell (.simm cs n) = true) ∧
    (∀ i o n e : Nat, isCell (.sref i o n e) = true) ∧ (∀ i o : Nat, isCell (.pref i o) = true) ∧ (∀ (cs : List LV) (o : Nat), isCell (.pimm cs o) = true) ∧ (∀ i : Nat, isCell (.mref i) = true) ∧ (∀ (f : Fn) (a b : List LV), isCell (.fn f a b) = true) :=
  ⟨frzD_closed, cells_agg, cells_cell, isC_int, isC_bool, isC_str, isC_nils, isC_zs, isC_simm, isC_sref, isC_pref, isC_pimm, isC_mref, isC_fn⟩
theorem sv2 : (∀ n : Nat, 0 + n = n) ∧ (∀ n : Nat, n + 0 = n) ∧ (∀ n : Nat, n * 1 = n) ∧ (∀ n : Nat, (n ≤ n) = True) ∧ ((!true) = false) ∧ ((!false) = true) ∧ ((false = true) = False) ∧ ((true = false) = False) ∧ (∀ b : Bool, (b && b) = b) :=
  ⟨Nat.zero_add, Nat.add_zero, Nat.mul_one, fun n => by simp, rfl, rfl, by simp, by simp, Bool.and_self⟩
theorem sv3 : (∀ (α : Type) (x : α) (l : List α), (x :: l)[0]? = some x) ∧ (∀ (α : Type) (x : α) (l : List α) (i : Nat), (x :: l)[i + 1]? = l[i]?) ∧ (∀ (α : Type) (x : α) (l : List α), (x :: l).length = l.length + 1) ∧ (∀ α : Type, ([] : List α).length = 0) ∧
    (∀ (α : Type) (l : List α), l.drop 0 = l) ∧ (∀ (α : Type) (x : α) (l : List α) (i : Nat), (x :: l).drop (i + 1) = l.drop i) ∧ (∀ (α : Type) (x : α) (l : List α) (i : Nat), (x :: l).take (i + 1) = x :: l.take i) ∧ (∀ (α : Type) (l : List α), l.take 0 = []) ∧ (∀ (α : Type) (i : Nat), ([] : List α).take i = []) ∧
    (∀ (α : Type) (p : α → Bool) (x : α) (l : List α), (x :: l).all p = (p x && l.all p)) ∧ (∀ (α : Type) (p : α → Bool), ([] : List α).all p = true) ∧
    (∀ (α β : Type) (a : α) (f : α → Option β), (some a).bind f = f a) ∧ (∀ (α β : Type) (a : α) (f : α → β), (some a).map f = some (f a)) ∧ (∀ (α β : Type) (x : Option α) (f : α → Option β), (x >>= f) = x.bind f) :=
  ⟨fun _ _ _ => rfl, fun _ _ _ _ => rfl, fun _ _ _ => rfl, fun _ => rfl, fun _ _ => rfl, fun _ _ _ _ => rfl, fun _ _ _ _ => rfl, fun _ _ => rfl, fun _ i => by cases i <;> rfl, fun _ _ _ _ => rfl, fun _ _ => rfl, fun _ _ _ _ => rfl, fun _ _ _ _ => rfl, fun _ _ _ _ => rfl⟩
end Go.Pv
namespace Go.Pv
open Go
theorem q_gen {P : Program} {G : Globs} {K : Env → St → Prop} {l : List LOper} {e : Env} {s s' : St} {o : LOper} {v : LV} (hg : wantedG o.guard e = some true) (hr : o.op.run e s = some (v, s')) (hs : strictOk o.fl o.op e = true) (hc : Chks o.chk (e.put o.dst v) s')
    (h : W P G K l (e.put o.dst v) s') : W P G K (o :: l) e s := ⟨pw_runF hg hr hs hc h.out⟩
theorem frzTry_all {l : List LV} {s : St} (h : LV.closed.closedAll l = true) : frzTry l s = (l, s) := by
  have : frz.frzAll (frz frzDepth) l s = some (l, s) := frzAll_closed h
  simp [frzTry, this]
theorem rowOf_simm {s : St} {cs : List LV} {n : Nat} (h : cs.length = n) : rowOf s 1 n (.simm cs n) = some cs := by
  simp [rowOf, h]
  exact List.take_of_length_le (by omega)
theorem appendLV_mutN {b j k n : Nat} {new : List LV} {s : St} {cs : List LV} (h : s.get j = some (.cells .mut cs)) (hl : cs.length = k) (hn : new.length = n) (hb : b ≤ 2 ^ 10) (hk : k + n ≤ 2 ^ 20) :
    appendLV 1 b (.sref j 0 k 1) new n s = some (.sref s.n 0 (k + n) 1, (s.put j (.cells .ro [])).new (.cells .mut (cs ++ new))) := by
  have : (k + n) * b ≤ big := by
    have : (k + n) * b ≤ 2 ^ 20 * 2 ^ 10 := Nat.mul_le_mul hk hb
    unfold big; omega
  simp only [appendLV, if_true, h, Nat.zero_add, Nat.mul_one, hl, Nat.le_refl, this, hn, and_self, List.drop_zero]
  rw [List.take_of_length_le (by omega)]
  rfl
theorem iaS {esz j off len i : Nat} {k : IntKind} {s : St} (h : (i : Int) < (len : Int)) : iaLV esz (.sref j off len esz) (.int k (i : Int)) s = some (.pref j (off + i * esz), s) := by
  have h' : i < len := by omega
  simp [iaLV, idxOf, h']
end Go.Pv
namespace Go.Pv
open Go
theorem q_storeG {P : Program} {G : Globs} {K : Env → St → Prop} {l : List LOper} {e : Env} {s : St} {fl : Bool} {a x : Opd} {i o n : Nat} {cs vs cs' : List LV} {v : LV} (ha : a.ev e = .pref i o) (hx : x.ev e = v) (hv : cells? v = some vs) (hs : s.get i = some (.cells .mut cs)) (hl : vs.length = n) (hb : o + n ≤ cs.length) (hc : splice cs o vs = cs')
    (h : W P G K l e (s.put i (.cells .mut cs'))) : W P G K (⟨none, .store n a x, none, [], fl⟩ :: l) e s :=
  q_gen (v := zeroVal) rfl (by simp only [LOp.run, ha, hx, hv, hs]; rw [if_pos ⟨hl, hb⟩, hc]) rfl trivial h
theorem run_bslice1 {e : Env} {s : St} {z v : LV} {x : Opd} (hx : x.ev e = v) (hc : isCell v = true) : (LOp.bslice 1 1 [z] [(0, (1, x))]).run e s = some (.sref s.n 0 1 1, s.new (.cells .mut [v])) := by
  simp [LOp.run, fillParts, evParts, rep, hx, cells_cell hc, splice]
end Go.Pv
