/- Plain code, one rule an operation: slices that grow. -/
import Derived.Test.YtmfpcofncfhklaaPvQ
set_option linter.unusedSimpArgs false
set_option linter.unusedVariables false
namespace Go.Pv
open Go
theorem cells_int (k : IntKind) (n : Int) : cells? (.int k n) = some [.int k n] := rfl
theorem cells_bool (b : Bool) : cells? (.bool b) = some [.bool b] := rfl
theorem cells_str (s : ByteArray) : cells? (.str s) = some [.str s] := rfl
theorem cells_nils : cells? .nils = some [.nils] := rfl
theorem cells_zs : cells? .zs = some [.zs] := rfl
theorem cells_simm (cs : List LV) (n : Nat) : cells? (.simm cs n) = some [.simm cs n] := rfl
theorem cells_sref (i o n e : Nat) : cells? (.sref i o n e) = some [.sref i o n e] := rfl
theorem cells_pref (i o : Nat) : cells? (.pref i o) = some [.pref i o] := rfl
theorem cells_mref (i : Nat) : cells? (.mref i) = some [.mref i] := rfl
theorem n_empty : St.empty.n = 0 := rfl
section
variable {P : Program} {G : Globs} {K : Env → St → Prop} {l : List LOper} {e : Env} {s : St} {d : Nat} {g : Option (Nat × Bool)} {fl : Bool}

theorem q_alloc {z : List LV} (hg : wantedG g e = some true) (k : W P G K l (Tr.set e d (.pref s.n 0)) (s.new (.cells .mut z))) : W P G K (⟨some d, .alloc z, g, [], fl⟩ :: l) e s := q_op hg rfl rfl k
theorem q_ext {x : Opd} {vs : List LV} {i : Nat} {v : LV} (hg : wantedG g e = some true) (hx : x.ev e = .tup vs) (hv : vs[i]? = some v) (k : W P G K l (Tr.set e d v) s) : W P G K (⟨some d, .ext x i, g, [], fl⟩ :: l) e s :=
  q_op hg rfl (by simp [LOp.run, hx, hv]) k
theorem q_bslice0 {esz : Nat} {z : List LV} (hg : wantedG g e = some true) (k : W P G K l (Tr.set e d (.sref s.n 0 0 esz)) (s.new (.cells .mut []))) : W P G K (⟨some d, .bslice esz 0 z [], g, [], fl⟩ :: l) e s :=
  q_op hg rfl (by simp [LOp.run, fillParts, evParts, rep]) k
theorem q_bslice1 {z : LV} {x : Opd} {v : LV} (hg : wantedG g e = some true) (hx : x.ev e = v) (hc : isCell v = true) (k : W P G K l (Tr.set e d (.sref s.n 0 1 1)) (s.new (.cells .mut [v]))) : W P G K (⟨some d, .bslice 1 1 [z] [(0, (1, x))], g, [], fl⟩ :: l) e s :=
  q_op hg rfl (by simp [LOp.run, fillParts, evParts, rep, hx, cells_cell hc, splice]) k
theorem q_append {esz b : Nat} {x y : Opd} {xv yv r : LV} {n : Nat} {new new' : List LV} {s1 s2 : St} (hg : wantedG g e = some true) (hx : x.ev e = xv) (hy : y.ev e = yv) (hn : lenLV yv = some n) (hr : rowOf s esz n yv = some new) (hf : frzTry new s = (new', s1))
    (ha : appendLV esz b xv new' n s1 = some (r, s2)) (k : W P G K l (Tr.set e d r) s2) : W P G K (⟨some d, .append esz b x y, g, [], fl⟩ :: l) e s :=
  q_op hg rfl (by simp [LOp.run, hx, hy, hn, hr, hf, ha]) k
end

theorem rowOf_one {s : St} {m : Nat} {md : Md} {v : LV} (h : s.get m = some (.cells md [v])) : rowOf s 1 1 (.sref m 0 1 1) = some [v] := by simp [rowOf, h]
theorem frzTry_closed {v : LV} {s : St} (h : v.closed = true) : frzTry [v] s = ([v], s) := by
  simp [frzTry, frz.frzAll, frzD_closed h]
theorem frzAll_closed : ∀ {l : List LV} {s : St} {n : Nat}, LV.closed.closedAll l = true → frz.frzAll (frz (n + 1)) l s = some (l, s) := by
  intro l
  induction l with
  | nil => intro s n _; rfl
  | cons v l ih =>
    intro s n h
    simp only [LV.closed.closedAll, Bool.and_eq_true] at h
    simp [frz.frzAll, frz_closed h.1, ih h.2]
theorem frz_sref {s : St} {j len : Nat} {cs : List LV} (h : s.get j = some (.cells .mut cs)) (hl : cs.length = len) (hc : LV.closed.closedAll cs = true) : frz frzDepth (.sref j 0 len 1) s = some (.simm cs len, s.put j (.cells .app cs)) := by
  have : frz frzDepth (.sref j 0 len 1) s = frz (38 + 1 + 1) (.sref j 0 len 1) s := rfl
  rw [this]
  unfold frz
  simp only [LV.closed, Bool.false_eq_true, if_false, h, Nat.zero_add, Nat.mul_one, hl, Nat.le_refl, if_true, frzAll_closed hc, Option.bind_eq_bind, Option.bind_some, List.drop_zero, Option.some.injEq, Prod.mk.injEq, and_true]
  rw [List.take_of_length_le (by omega)]
theorem frzTry_sref {s : St} {j len : Nat} {cs : List LV} (h : s.get j = some (.cells .mut cs)) (hl : cs.length = len) (hc : LV.closed.closedAll cs = true) : frzTry [.sref j 0 len 1] s = ([.simm cs len], s.put j (.cells .app cs)) := by
  simp [frzTry, frz.frzAll, frz_sref h hl hc]
theorem appendLV_nils {b : Nat} {v : LV} {s : St} (hb : b ≤ 2 ^ 20) : appendLV 1 b .nils [v] 1 s = some (.sref s.n 0 1 1, s.new (.cells .mut [v])) := by
  have : 1 * b ≤ big := by unfold big; omega
  simp [appendLV, this]
  unfold big
  omega
theorem appendLV_mut {b j k : Nat} {v : LV} {s : St} {cs : List LV} (h : s.get j = some (.cells .mut cs)) (hl : cs.length = k) (hb : b ≤ 2 ^ 10) (hk : k ≤ 2 ^ 20) :
    appendLV 1 b (.sref j 0 k 1) [v] 1 s = some (.sref s.n 0 (k + 1) 1, (s.put j (.cells .ro [])).new (.cells .mut (cs ++ [v]))) := by
  have : (k + 1) * b ≤ big := by
    have : (k + 1) * b ≤ (2 ^ 20 + 1) * 2 ^ 10 := Nat.mul_le_mul (by omega) hb
    unfold big; omega
  simp only [appendLV, if_true, h, Nat.zero_add, Nat.mul_one, hl, Nat.le_refl, this, List.length_cons, List.length_nil, and_self, List.drop_zero]
  rw [List.take_of_length_le (by omega)]
  rfl
theorem frz_srefN {s : St} {j len : Nat} {cs : List LV} (n : Nat) (h : s.get j = some (.cells .mut cs)) (hl : cs.length = len) (hc : LV.closed.closedAll cs = true) : frz (n + 2) (.sref j 0 len 1) s = some (.simm cs len, s.put j (.cells .app cs)) := by
  unfold frz
  simp only [LV.closed, Bool.false_eq_true, if_false, h, Nat.zero_add, Nat.mul_one, hl, Nat.le_refl, if_true, frzAll_closed hc, Option.bind_eq_bind, Option.bind_some, List.drop_zero, Option.some.injEq, Prod.mk.injEq, and_true]
  rw [List.take_of_length_le (by omega)]
theorem frz_agg {s s' : St} {cs cs' : List LV} (n : Nat) (hc : (LV.agg cs).closed = false) (h : frz.frzAll (frz n) cs s = some (cs', s')) : frz (n + 1) (.agg cs) s = some (.agg cs', s') := by
  unfold frz
  simp [hc, h]
theorem q_fnExR {P : Program} {G : Globs} {k : Nat} {fn : Func} {refs : List Nat} {lf : LFunc} {args : List LV} {R : LV → Prop} (hf : P.funcs[k]? = some fn) (hn : (fn.name == "runtime.NumGoroutine") = false) (hc : compFunc P G refs fn = some lf)
    (hlen : args.length ≤ lf.ntmps) (ha : LV.closed.closedAll args = true)
    (h : Cd P G false lf.ntmps lf.body (envOf args) St.empty (fun o e s => (o = .normal ∨ o = .jmp .ret) ∧ ∃ v, resVal lf.results e s = some v ∧ ∃ r s', frz frzDepth v s = some (r, s') ∧ r.closed = true ∧ R r)) : PureEx P G (.fn (.func k) [] []) args R :=
  ⟨rfl, ha, call_fn (first := []) (caps := []) hf hn hc (by simpa using hlen) (by simpa using h.out)⟩
end Go.Pv
