/- Plain code, one rule an operation. -/
import Derived.Test.YtmfpcofncfhklaaPvRow
set_option linter.unusedSimpArgs false
set_option linter.unusedVariables false
namespace Go.Pv
open Go
/-- Operations to come; a wrapper that unification does not look behind. -/
structure W (P : Program) (G : Globs) (K : Env → St → Prop) (l : List LOper) (e : Env) (s : St) : Prop where
  out : wpOps P G K l e s
/-- Code to come. -/
structure Cd (P : Program) (G : Globs) (rd : Bool) (nt : Nat) (c : LCode) (e : Env) (s : St) (Q : Out → Env → St → Prop) : Prop where
  out : CodeOk P G rd nt c e s Q

section
variable {P : Program} {G : Globs} {K : Env → St → Prop} {l : List LOper} {e : Env} {s : St} {d : Nat} {g : Option (Nat × Bool)} {fl : Bool}

theorem wN : wantedG none e = some true := rfl
theorem wG {i : Nat} {b : Bool} (h : e.at i = .bool b) : wantedG (some (i, b)) e = some true := by simp [wantedG, h]
theorem wG0 {i : Nat} {b c : Bool} (h : e.at i = .bool c) (hn : (c == b) = false) : wantedG (some (i, b)) e = some false := by simp [wantedG, h, hn]

theorem q_skip {o : LOper} {i : Nat} {b c : Bool} (ho : o.guard = some (i, b)) (h : e.at i = .bool c) (hn : (c == b) = false) (k : W P G K l (e.put o.dst (.tup [])) s) : W P G K (o :: l) e s := ⟨pw_skipF (by rw [ho]; exact wG0 h hn) k.out⟩
theorem q_op {op : LOp} {v : LV} {s' : St} (hg : wantedG g e = some true) (hs : strictOk fl op e = true) (hr : op.run e s = some (v, s')) (k : W P G K l (Tr.set e d v) s') : W P G K (⟨some d, op, g, [], fl⟩ :: l) e s :=
  ⟨pw_runF hg hr hs trivial k.out⟩
theorem q_mv {x : Opd} {v : LV} (hg : wantedG g e = some true) (hx : x.ev e = v) (k : W P G K l (Tr.set e d v) s) : W P G K (⟨some d, .mv x, g, [], fl⟩ :: l) e s :=
  q_op hg rfl (by simp [LOp.run, hx]) k
theorem q_faddr {x : Opd} {off o : Nat} {cs : List LV} (hg : wantedG g e = some true) (hx : x.ev e = .pimm cs o) (k : W P G K l (Tr.set e d (.pimm cs (o + off))) s) : W P G K (⟨some d, .faddr off x, g, [], fl⟩ :: l) e s :=
  q_op hg rfl (by simp [LOp.run, hx]) k
theorem q_faddrR {x : Opd} {off o i : Nat} (hg : wantedG g e = some true) (hx : x.ev e = .pref i o) (k : W P G K l (Tr.set e d (.pref i (o + off))) s) : W P G K (⟨some d, .faddr off x, g, [], fl⟩ :: l) e s :=
  q_op hg rfl (by simp [LOp.run, hx]) k
theorem q_load {x : Opd} {o : Nat} {cs : List LV} {v : LV} (hg : wantedG g e = some true) (hx : x.ev e = .pimm cs o) (hv : cs[o]? = some v) (k : W P G K l (Tr.set e d v) s) : W P G K (⟨some d, .load none x, g, [], fl⟩ :: l) e s :=
  q_op hg rfl (by simp [LOp.run, hx, mkVal, hv]) k
theorem q_loadN {x : Opd} {o n : Nat} {cs : List LV} {v : List LV} (hg : wantedG g e = some true) (hx : x.ev e = .pimm cs o) (hn : Nat.ble (o + n) cs.length = true) (hv : (cs.drop o).take n = v) (k : W P G K l (Tr.set e d (.agg v)) s) : W P G K (⟨some d, .load (some n) x, g, [], fl⟩ :: l) e s :=
  q_op hg rfl (by simp [LOp.run, hx, mkVal, Nat.le_of_ble_eq_true hn, hv]) k
theorem q_loadR {x : Opd} {i o : Nat} {m : Md} {cs : List LV} {v : LV} (hg : wantedG g e = some true) (hx : x.ev e = .pref i o) (hs : s.get i = some (.cells m cs)) (hv : cs[o]? = some v) (k : W P G K l (Tr.set e d v) s) : W P G K (⟨some d, .load none x, g, [], fl⟩ :: l) e s :=
  q_op hg rfl (by simp [LOp.run, hx, hs, mkVal, hv]) k
theorem q_loadRN {x : Opd} {i o n : Nat} {m : Md} {cs : List LV} {v : List LV} (hg : wantedG g e = some true) (hx : x.ev e = .pref i o) (hs : s.get i = some (.cells m cs)) (hn : Nat.ble (o + n) cs.length = true) (hv : (cs.drop o).take n = v) (k : W P G K l (Tr.set e d (.agg v)) s) : W P G K (⟨some d, .load (some n) x, g, [], fl⟩ :: l) e s :=
  q_op hg rfl (by simp [LOp.run, hx, hs, mkVal, Nat.le_of_ble_eq_true hn, hv]) k
theorem q_len {x : Opd} {v : LV} {n : Nat} (hg : wantedG g e = some true) (hx : x.ev e = v) (hv : slLen v = some n) (k : W P G K l (Tr.set e d (.int .i64 n)) s) : W P G K (⟨some d, .lenSl x, g, [], fl⟩ :: l) e s :=
  q_op hg rfl (by simp [LOp.run, hx, hv]) k
theorem q_iaddr {x i : Opd} {esz : Nat} {v iv r : LV} {s' : St} (hg : wantedG g e = some true) (hx : x.ev e = v) (hi : i.ev e = iv) (hv : iaLV esz v iv s = some (r, s')) (k : W P G K l (Tr.set e d r) s') : W P G K (⟨some d, .iaddr esz x i, g, [], fl⟩ :: l) e s :=
  q_op hg rfl (by rw [run_iaddr, hx, hi, hv]) k
theorem q_cmp {op : BinOp} {x y : Opd} {a b : LV} {b0 : Bool} (hg : wantedG g e = some true) (hx : x.ev e = a) (hy : y.ev e = b) (hr : binLV op a b = some (.bool b0)) (k : ∀ b, b0 = b → W P G K l (Tr.set e d (.bool b)) s) : W P G K (⟨some d, .bin op x y, g, [], fl⟩ :: l) e s :=
  ⟨pw_binF hg (by rw [hx, hy]; exact hr) fun b hb => (k b hb).out⟩
theorem q_bin {op : BinOp} {x y : Opd} {a b : LV} {v : LV} (hg : wantedG g e = some true) (hx : x.ev e = a) (hy : y.ev e = b) (hr : binLV op a b = some v) (k : W P G K l (Tr.set e d v) s) : W P G K (⟨some d, .bin op x y, g, [], fl⟩ :: l) e s :=
  q_op hg rfl (by simp [LOp.run, hx, hy, hr]) k
theorem q_not {x : Opd} {b : Bool} (hg : wantedG g e = some true) (hx : x.ev e = .bool b) (k : W P G K l (Tr.set e d (.bool !b)) s) : W P G K (⟨some d, .un .not x, g, [], fl⟩ :: l) e s :=
  q_op hg rfl (by simp [LOp.run, hx, unLV]) k
theorem q_pickT {c x y : Opd} {v : LV} (hg : wantedG g e = some true) (hc : c.ev e = .bool true) (hx : x.ev e = v) (k : W P G K l (Tr.set e d v) s) : W P G K (⟨some d, .pick c x y, g, [], fl⟩ :: l) e s :=
  q_op hg rfl (by simp [LOp.run, hc, hx]) k
theorem q_pickF {c x y : Opd} {v : LV} (hg : wantedG g e = some true) (hc : c.ev e = .bool false) (hx : y.ev e = v) (k : W P G K l (Tr.set e d v) s) : W P G K (⟨some d, .pick c x y, g, [], fl⟩ :: l) e s :=
  q_op hg rfl (by simp [LOp.run, hc, hx]) k
theorem q_box {x : Opd} {cs : List LV} (hx : x.ev e = .agg cs) (hc : (LV.agg cs).closed = true) (ha : cs.all isCell = true) (hl : Nat.beq cs.length 0 = false) (k : W P G K l (Tr.set e d (.pimm cs 0)) s) : W P G K (⟨some d, .box true x, none, [], false⟩ :: l) e s :=
  q_op rfl rfl (by
    have h0 : cs.length ≠ 0 := fun h => by rw [h] at hl; cases hl
    have h1 : cs ≠ [] := fun h => h0 (by rw [h]; rfl)
    simp [LOp.run, hx, frzD_closed hc, cells_agg, ha, h1]) k

theorem q_max2 {x y : Opd} {k : IntKind} {a b : Int} (hg : wantedG g e = some true) (hx : x.ev e = .int k a) (hy : y.ev e = .int k b) (h : W P G K l (Tr.set e d (.int k (max a b))) s) : W P G K (⟨some d, .minmax true [x, y], g, [], fl⟩ :: l) e s :=
  q_op hg rfl (by
    have hm : (if a < b then b else a) = max a b := by rw [Int.max_def]; split <;> split <;> omega
    simp [LOp.run, hx, hy, minmaxLV, minmaxLV.go, hm]) h
theorem q_min2 {x y : Opd} {k : IntKind} {a b : Int} (hg : wantedG g e = some true) (hx : x.ev e = .int k a) (hy : y.ev e = .int k b) (h : W P G K l (Tr.set e d (.int k (min a b))) s) : W P G K (⟨some d, .minmax false [x, y], g, [], fl⟩ :: l) e s :=
  q_op hg rfl (by
    have hm : (if b < a then b else a) = min a b := by rw [Int.min_def]; split <;> split <;> omega
    simp [LOp.run, hx, hy, minmaxLV, minmaxLV.go, hm]) h
theorem q_eq {neg : Bool} {t : EqTy} {x y : Opd} {a b : LV} {b0 : Bool} (hg : wantedG g e = some true) (hx : x.ev e = a) (hy : y.ev e = b) (hr : eqLV t a b = some b0) (k : ∀ b, (if neg then !b0 else b0) = b → W P G K l (Tr.set e d (.bool b)) s) : W P G K (⟨some d, .eq neg t x y, g, [], fl⟩ :: l) e s :=
  ⟨pw_eqF hg (by rw [hx, hy]; exact hr) fun b hb => (k b hb).out⟩
/-- An operation, whatever it be, run. -/
theorem q_run0 {op : LOp} {s' : St} {v : LV} (hr : op.run e s = some (v, s')) (h : W P G K l (Tr.set e d v) s') : W P G K (⟨some d, op, none, [], false⟩ :: l) e s := ⟨pw_run0 hr h.out⟩
theorem q_runN {op : LOp} {s' : St} {v : LV} (hr : op.run e s = some (v, s')) (h : W P G K l e s') : W P G K (⟨none, op, none, [], false⟩ :: l) e s := ⟨pw_runN hr h.out⟩
theorem q_store {a x : Opd} {i o n : Nat} {cs : List LV} {v : LV} {vs : List LV} (ha : a.ev e = .pref i o) (hx : x.ev e = v) (hv : cells? v = some vs) (hs : s.get i = some (.cells .mut cs)) (hl : Nat.beq vs.length n = true) (hb : Nat.ble (o + n) cs.length = true) (h : W P G K l e (s.put i (.cells .mut (splice cs o vs)))) : W P G K (⟨none, .store n a x, none, [], false⟩ :: l) e s :=
  q_runN (v := zeroVal) (by simp only [LOp.run, ha, hx, hv, hs]; rw [if_pos ⟨Nat.eq_of_beq_eq_true hl, Nat.le_of_ble_eq_true hb⟩]) h
theorem q_pure (hG : ∀ x ∈ G, LV.closed.closedAll x.2 = true) {dst : Option Nat} {chk : List (Nat × Option (Nat × Bool) × LOp)} {as : List Opd} {vs : List LV} {fv r : LV} (hp : PureOk P G fv vs r) (hg : wantedG g e = some true) (ha : as.map (·.ev e) = vs)
    (hc : Chks chk (e.put dst r) s) (h : W P G K l (e.put dst r) s) : W P G K (⟨dst, .call (.c fv) as, g, chk, fl⟩ :: l) e s := ⟨pw_pure hG hp hg ha hc h.out⟩
theorem q_pureEx (hG : ∀ x ∈ G, LV.closed.closedAll x.2 = true) {dst : Option Nat} {chk : List (Nat × Option (Nat × Bool) × LOp)} {as : List Opd} {vs : List LV} {fv : LV} {R : LV → Prop} (hp : PureEx P G fv vs R) (hg : wantedG g e = some true) (ha : as.map (·.ev e) = vs)
    (h : ∀ r, R r → r.closed = true → Chks chk (e.put dst r) s ∧ W P G K l (e.put dst r) s) : W P G K (⟨dst, .call (.c fv) as, g, chk, fl⟩ :: l) e s := ⟨pw_pureEx hG hp hg ha fun r hr hc => ⟨(h r hr hc).1, (h r hr hc).2.out⟩⟩
theorem q_pureB (hG : ∀ x ∈ G, LV.closed.closedAll x.2 = true) {dst : Option Nat} {chk : List (Nat × Option (Nat × Bool) × LOp)} {as : List Opd} {vs : List LV} {fv : LV} {b0 : Bool} (hp : PureOk P G fv vs (.bool b0)) (hg : wantedG g e = some true) (ha : as.map (·.ev e) = vs)
    (h : ∀ b, b0 = b → Chks chk (e.put dst (.bool b)) s ∧ W P G K l (e.put dst (.bool b)) s) : W P G K (⟨dst, .call (.c fv) as, g, chk, fl⟩ :: l) e s := ⟨pw_pureB hG hp hg ha fun b hb => ⟨(h b hb).1, (h b hb).2.out⟩⟩
theorem q_call {dst : Option Nat} {chk : List (Nat × Option (Nat × Bool) × LOp)} {f : Opd} {as : List Opd} {vs : List LV} {fv : LV} (hg : wantedG g e = some true) (hf : f.ev e = fv) (ha : as.map (·.ev e) = vs)
    (h : CallOk P G fv vs s (fun v s' => Chks chk (e.put dst v) s' ∧ W P G K l (e.put dst v) s')) : W P G K (⟨dst, .call f as, g, chk, fl⟩ :: l) e s :=
  ⟨pw_callF rfl hg (by rw [hf, ha]; exact CallOk.mono h fun v s hh => ⟨hh.1, hh.2.out⟩)⟩
theorem q_nil (h : K e s) : W P G K [] e s := ⟨h⟩

variable {rd : Bool} {nt : Nat} {Q : Out → Env → St → Prop}
theorem qc_skip (h : Q .normal e s) : Cd P G rd nt .skip e s Q := ⟨ok_skip h⟩
theorem qc_exit {id : Nat} (h : Q (.jmp (.exit id)) e s) : Cd P G rd nt (.exit id) e s Q := ⟨ok_exit h⟩
theorem qc_ret (h : Q (.jmp .ret) e s) : Cd P G rd nt .ret e s Q := ⟨ok_ret h⟩
theorem qc_block {id : Nat} {x : LCode} (h : Cd P G rd nt x e s (Blkd id Q)) : Cd P G rd nt (.block id x) e s Q := ⟨ok_block h.out⟩
theorem qc_scope {x : LCode} (h : Cd P G rd nt x e s Q) : Cd P G rd nt (.scope x) e s Q := ⟨ok_scope h.out⟩
theorem qc_seq {a b : LCode} (h : Cd P G rd nt a e s (Thn (fun e s => Cd P G rd nt b e s Q) Q)) : Cd P G rd nt (.seq a b) e s Q :=
  ⟨ok_seq (CodeOk.mono h.out fun o e s hh => by cases o with | normal => exact Cd.out hh | jmp j => exact hh)⟩
theorem qc_region (hm : P.follows .mixedOrders = true) {l : List LOper} (h : W P G (fun e s => Q .normal e s) l e s) : Cd P G rd nt (.region l) e s Q := ⟨pw_region hm h.out⟩
theorem qc_condT {x : Opd} {a b : LCode} (hx : x.ev e = .bool true) (h : Cd P G rd nt a e s Q) : Cd P G rd nt (.cond x a b) e s Q := ⟨pw_condT hx h.out⟩
theorem qc_condF {x : Opd} {a b : LCode} (hx : x.ev e = .bool false) (h : Cd P G rd nt b e s Q) : Cd P G rd nt (.cond x a b) e s Q := ⟨pw_condF hx h.out⟩
theorem qc_loop {x : LCode} (I : Nat → Env → St → Prop) (n : Nat) (h : I n e s)
    (hI : ∀ n e s, I n e s → Cd P G rd nt x e s (Thn (fun e s => ∃ m, m < n ∧ I m e s) Q)) : Cd P G rd nt (.loop x) e s Q := ⟨ok_loop_inv I (fun n e s h => (hI n e s h).out) n h⟩
theorem q_fn {k : Nat} {fn : Func} {refs : List Nat} {lf : LFunc} {args : List LV} {r : LV} {t : Nat} (hm : P.follows .mixedOrders = true) (hf : P.funcs[k]? = some fn) (hn : (fn.name == "runtime.NumGoroutine") = false) (hc : compFunc P G refs fn = some lf)
    (hlen : args.length ≤ lf.ntmps) (ha : LV.closed.closedAll args = true) (hr : r.closed = true) (ht : lf.results = [.tmp t])
    (h : Cd P G false lf.ntmps lf.body (envOf args) St.empty (fun o e s => (o = .normal ∨ o = .jmp .ret) ∧ e.at t = r)) : PureOk P G (.fn (.func k) [] []) args r := pure_tmp hm hf hn hc hlen ha hr ht h.out
theorem q_fnEx {k : Nat} {fn : Func} {refs : List Nat} {lf : LFunc} {args : List LV} {R : LV → Prop} {t : Nat} (hm : P.follows .mixedOrders = true) (hf : P.funcs[k]? = some fn) (hn : (fn.name == "runtime.NumGoroutine") = false) (hc : compFunc P G refs fn = some lf)
    (hlen : args.length ≤ lf.ntmps) (ha : LV.closed.closedAll args = true) (ht : lf.results = [.tmp t])
    (h : Cd P G false lf.ntmps lf.body (envOf args) St.empty (fun o e s => (o = .normal ∨ o = .jmp .ret) ∧ ∃ r s', frz frzDepth (e.at t) s = some (r, s') ∧ r.closed = true ∧ R r)) : PureEx P G (.fn (.func k) [] []) args R := pureEx_tmp hm hf hn hc hlen ha ht h.out
end

/-- What is forgotten does not matter. -/
theorem code_forget {P : Program} {G : Globs} {rd : Bool} {nt : Nat} {c : LCode} {e e2 : Env} {s : St} {Q : Out → Env → St → Prop} (he : ∀ t, e2.at t = e.at t ∨ e2.at t = .top) (h : CodeOk P G rd nt c e2 s Q) : CodeOk P G rd nt c e s Q := by
  intro c' hc w0 μ ι δ w b a k cs hb hf
  refine h c' hc w0 μ ι δ w b a k cs hb ⟨hf.now, fun t => ?_, hf.size⟩
  rcases he t with h | h
  · rw [h]; exact hf.re t
  · rw [h]; exact .top _

/-- Only some temporaries kept. -/
def keep (e : Env) : List Nat → Env
  | [] => .nil
  | t :: r => Tr.set (keep e r) t (e.at t)
theorem keep_at (e : Env) : ∀ (l : List Nat) (t : Nat), (keep e l).at t = e.at t ∨ (keep e l).at t = .top := by
  intro l
  induction l with
  | nil => intro t; exact .inr rfl
  | cons i r ih =>
    intro t
    simp only [keep, Env.at_set]
    split
    · rename_i h; subst h; exact .inl rfl
    · exact ih t
theorem qc_keep {P : Program} {G : Globs} {rd : Bool} {nt : Nat} {c : LCode} {e : Env} {s : St} {Q : Out → Env → St → Prop} (l : List Nat) (h : Cd P G rd nt c (keep e l) s Q) : Cd P G rd nt c e s Q := ⟨code_forget (keep_at e l) h.out⟩
theorem code_keep {P : Program} {G : Globs} {rd : Bool} {nt : Nat} {c : LCode} {e : Env} {s : St} {Q : Out → Env → St → Prop} (l : List Nat) (h : CodeOk P G rd nt c (keep e l) s Q) : CodeOk P G rd nt c e s Q := code_forget (keep_at e l) h
end Go.Pv

set_option linter.unusedSimpArgs false
set_option linter.unusedVariables false
namespace Go.Pv
open Go
theorem cells_int (k : IntKind) (n : Int) : cells? (.int k n) = some [.int k n] := rfl
theorem cells_bool (b : Bool) : cells? (.bool b) = some [.bool b] := rfl
theorem cells_str (s : ByteArray) : cells? (.str s) = some [.str s] := rfl
theorem cells_nils : cells? .nils = some [.nils] := rfl
theorem cells_zs : cells? .zs = some [.zs] := rfl
theorem cells_simm (cs : List LV) (n : Nat) : cells? (.simm cs n) = some [.simm cs n] := rfl
theorem cells_sref (i o n e : Nat) : cells? (.sref i o n e) = some [.sref i o n e] := rfl
theorem cells_pref (i o : Nat) : cells? (.pref i o) = some [.pref i o] := rfl
theorem cells_mref (i : Nat) : cells? (.mref i) = some [.mref i] := rfl
theorem n_empty : St.empty.n = 0 := rfl
section
variable {P : Program} {G : Globs} {K : Env → St → Prop} {l : List LOper} {e : Env} {s : St} {d : Nat} {g : Option (Nat × Bool)} {fl : Bool}

theorem q_alloc {z : List LV} (hg : wantedG g e = some true) (k : W P G K l (Tr.set e d (.pref s.n 0)) (s.new (.cells .mut z))) : W P G K (⟨some d, .alloc z, g, [], fl⟩ :: l) e s := q_op hg rfl rfl k
theorem q_ext {x : Opd} {vs : List LV} {i : Nat} {v : LV} (hg : wantedG g e = some true) (hx : x.ev e = .tup vs) (hv : vs[i]? = some v) (k : W P G K l (Tr.set e d v) s) : W P G K (⟨some d, .ext x i, g, [], fl⟩ :: l) e s :=
  q_op hg rfl (by simp [LOp.run, hx, hv]) k
theorem q_bslice0 {esz : Nat} {z : List LV} (hg : wantedG g e = some true) (k : W P G K l (Tr.set e d (.sref s.n 0 0 esz)) (s.new (.cells .mut []))) : W P G K (⟨some d, .bslice esz 0 z [], g, [], fl⟩ :: l) e s :=
  q_op hg rfl (by simp [LOp.run, fillParts, evParts, rep]) k
theorem q_bslice1 {z : LV} {x : Opd} {v : LV} (hg : wantedG g e = some true) (hx : x.ev e = v) (hc : isCell v = true) (k : W P G K l (Tr.set e d (.sref s.n 0 1 1)) (s.new (.cells .mut [v]))) : W P G K (⟨some d, .bslice 1 1 [z] [(0, (1, x))], g, [], fl⟩ :: l) e s :=
  q_op hg rfl (by simp [LOp.run, fillParts, evParts, rep, hx, cells_cell hc, splice]) k
theorem q_append {esz b : Nat} {x y : Opd} {xv yv r : LV} {n : Nat} {new new' : List LV} {s1 s2 : St} (hg : wantedG g e = some true) (hx : x.ev e = xv) (hy : y.ev e = yv) (hn : lenLV yv = some n) (hr : rowOf s esz n yv = some new) (hf : frzTry new s = (new', s1))
    (ha : appendLV esz b xv new' n s1 = some (r, s2)) (k : W P G K l (Tr.set e d r) s2) : W P G K (⟨some d, .append esz b x y, g, [], fl⟩ :: l) e s :=
  q_op hg rfl (by simp [LOp.run, hx, hy, hn, hr, hf, ha]) k
end

theorem rowOf_one {s : St} {m : Nat} {md : Md} {v : LV} (h : s.get m = some (.cells md [v])) : rowOf s 1 1 (.sref m 0 1 1) = some [v] := by simp [rowOf, h]
theorem frzTry_closed {v : LV} {s : St} (h : v.closed = true) : frzTry [v] s = ([v], s) := by
  simp [frzTry, frz.frzAll, frzD_closed h]
theorem frzAll_closed : ∀ {l : List LV} {s : St} {n : Nat}, LV.closed.closedAll l = true → frz.frzAll (frz (n + 1)) l s = some (l, s) := by
  intro l
  induction l with
  | nil => intro s n _; rfl
  | cons v l ih =>
    intro s n h
    simp only [LV.closed.closedAll, Bool.and_eq_true] at h
    simp [frz.frzAll, frz_closed h.1, ih h.2]
theorem frz_sref {s : St} {j len : Nat} {cs : List LV} (h : s.get j = some (.cells .mut cs)) (hl : cs.length = len) (hc : LV.closed.closedAll cs = true) : frz frzDepth (.sref j 0 len 1) s = some (.simm cs len, s.put j (.cells .app cs)) := by
  have : frz frzDepth (.sref j 0 len 1) s = frz (38 + 1 + 1) (.sref j 0 len 1) s := rfl
  rw [this]
  unfold frz
  simp only [LV.closed, Bool.false_eq_true, if_false, h, Nat.zero_add, Nat.mul_one, hl, Nat.le_refl, if_true, frzAll_closed hc, Option.bind_eq_bind, Option.bind_some, List.drop_zero, Option.some.injEq, Prod.mk.injEq, and_true]
  rw [List.take_of_length_le (by omega)]
theorem frzTry_sref {s : St} {j len : Nat} {cs : List LV} (h : s.get j = some (.cells .mut cs)) (hl : cs.length = len) (hc : LV.closed.closedAll cs = true) : frzTry [.sref j 0 len 1] s = ([.simm cs len], s.put j (.cells .app cs)) := by
  simp [frzTry, frz.frzAll, frz_sref h hl hc]
theorem appendLV_nils {b : Nat} {v : LV} {s : St} (hb : b ≤ 2 ^ 20) : appendLV 1 b .nils [v] 1 s = some (.sref s.n 0 1 1, s.new (.cells .mut [v])) := by
  have : 1 * b ≤ big := by unfold big; omega
  simp [appendLV, this]
  unfold big
  omega
theorem appendLV_mut {b j k : Nat} {v : LV} {s : St} {cs : List LV} (h : s.get j = some (.cells .mut cs)) (hl : cs.length = k) (hb : b ≤ 2 ^ 10) (hk : k ≤ 2 ^ 20) :
    appendLV 1 b (.sref j 0 k 1) [v] 1 s = some (.sref s.n 0 (k + 1) 1, (s.put j (.cells .ro [])).new (.cells .mut (cs ++ [v]))) := by
  have : (k + 1) * b ≤ big := by
    have : (k + 1) * b ≤ (2 ^ 20 + 1) * 2 ^ 10 := Nat.mul_le_mul (by omega) hb
    unfold big; omega
  simp only [appendLV, if_true, h, Nat.zero_add, Nat.mul_one, hl, Nat.le_refl, this, List.length_cons, List.length_nil, and_self, List.drop_zero]
  rw [List.take_of_length_le (by omega)]
  rfl
theorem frz_srefN {s : St} {j len : Nat} {cs : List LV} (n : Nat) (h : s.get j = some (.cells .mut cs)) (hl : cs.length = len) (hc : LV.closed.closedAll cs = true) : frz (n + 2) (.sref j 0 len 1) s = some (.simm cs len, s.put j (.cells .app cs)) := by
  unfold frz
  simp only [LV.closed, Bool.false_eq_true, if_false, h, Nat.zero_add, Nat.mul_one, hl, Nat.le_refl, if_true, frzAll_closed hc, Option.bind_eq_bind, Option.bind_some, List.drop_zero, Option.some.injEq, Prod.mk.injEq, and_true]
  rw [List.take_of_length_le (by omega)]
theorem frz_agg {s s' : St} {cs cs' : List LV} (n : Nat) (hc : (LV.agg cs).closed = false) (h : frz.frzAll (frz n) cs s = some (cs', s')) : frz (n + 1) (.agg cs) s = some (.agg cs', s') := by
  unfold frz
  simp [hc, h]
theorem q_fnExR {P : Program} {G : Globs} {k : Nat} {fn : Func} {refs : List Nat} {lf : LFunc} {args : List LV} {R : LV → Prop} (hf : P.funcs[k]? = some fn) (hn : (fn.name == "runtime.NumGoroutine") = false) (hc : compFunc P G refs fn = some lf)
    (hlen : args.length ≤ lf.ntmps) (ha : LV.closed.closedAll args = true)
    (h : Cd P G false lf.ntmps lf.body (envOf args) St.empty (fun o e s => (o = .normal ∨ o = .jmp .ret) ∧ ∃ v, resVal lf.results e s = some v ∧ ∃ r s', frz frzDepth v s = some (r, s') ∧ r.closed = true ∧ R r)) : PureEx P G (.fn (.func k) [] []) args R :=
  ⟨rfl, ha, call_fn (first := []) (caps := []) hf hn hc (by simpa using hlen) (by simpa using h.out)⟩
end Go.Pv

set_option linter.unusedSimpArgs false
set_option linter.unusedVariables false
namespace Go.Pv
open Go
theorem lk : (∀ (e : Env) (i : Nat), (Opd.t i).ev e = e.at i) ∧ (∀ (e : Env) (v : LV), (Opd.c v).ev e = v) ∧ (∀ (e : Env) (i j : Nat) (v : LV), Env.at (Tr.set e i v) j = if j = i then v else Env.at e j) :=
  ⟨fun _ _ => rfl, fun _ _ => rfl, Env.at_set⟩
theorem sv1 : (∀ {v : LV} {s : St}, v.closed = true → frz frzDepth v s = some (v, s)) ∧ (∀ cs : List LV, cells? (.agg cs) = if cs.all isCell then some cs else none) ∧ (∀ {v : LV}, isCell v = true → cells? v = some [v]) ∧
    (∀ (k : IntKind) (n : Int), isCell (.int k n) = true) ∧ (∀ b : Bool, isCell (.bool b) = true) ∧ (∀ s : ByteArray, isCell (.str s) = true) ∧ isCell .nils = true ∧ isCell .zs = true ∧ (∀ (cs : List LV) (n : Nat), isCell (.simm cs n) = true) ∧
    (∀ i o n e : Nat, isCell (.sref i o n e) = true) ∧ (∀ i o : Nat, isCell (.pref i o) = true) ∧ (∀ (cs : List LV) (o : Nat), isCell (.pimm cs o) = true) ∧ (∀ i : Nat, isCell (.mref i) = true) ∧ (∀ (f : Fn) (a b : List LV), isCell (.fn f a b) = true) :=
  ⟨frzD_closed, cells_agg, cells_cell, isC_int, isC_bool, isC_str, isC_nils, isC_zs, isC_simm, isC_sref, isC_pref, isC_pimm, isC_mref, isC_fn⟩
theorem sv2 : (∀ n : Nat, 0 + n = n) ∧ (∀ n : Nat, n + 0 = n) ∧ (∀ n : Nat, n * 1 = n) ∧ (∀ n : Nat, (n ≤ n) = True) ∧ ((!true) = false) ∧ ((!false) = true) ∧ ((false = true) = False) ∧ ((true = false) = False) ∧ (∀ b : Bool, (b && b) = b) :=
  ⟨Nat.zero_add, Nat.add_zero, Nat.mul_one, fun n => by simp, rfl, rfl, by simp, by simp, Bool.and_self⟩
theorem sv3 : (∀ (α : Type) (x : α) (l : List α), (x :: l)[0]? = some x) ∧ (∀ (α : Type) (x : α) (l : List α) (i : Nat), (x :: l)[i + 1]? = l[i]?) ∧ (∀ (α : Type) (x : α) (l : List α), (x :: l).length = l.length + 1) ∧ (∀ α : Type, ([] : List α).length = 0) ∧
    (∀ (α : Type) (l : List α), l.drop 0 = l) ∧ (∀ (α : Type) (x : α) (l : List α) (i : Nat), (x :: l).drop (i + 1) = l.drop i) ∧ (∀ (α : Type) (x : α) (l : List α) (i : Nat), (x :: l).take (i + 1) = x :: l.take i) ∧ (∀ (α : Type) (l : List α), l.take 0 = []) ∧ (∀ (α : Type) (i : Nat), ([] : List α).take i = []) ∧
    (∀ (α : Type) (p : α → Bool) (x : α) (l : List α), (x :: l).all p = (p x && l.all p)) ∧ (∀ (α : Type) (p : α → Bool), ([] : List α).all p = true) ∧
    (∀ (α β : Type) (a : α) (f : α → Option β), (some a).bind f = f a) ∧ (∀ (α β : Type) (a : α) (f : α → β), (some a).map f = some (f a)) ∧ (∀ (α β : Type) (x : Option α) (f : α → Option β), (x >>= f) = x.bind f) :=
  ⟨fun _ _ _ => rfl, fun _ _ _ _ => rfl, fun _ _ _ => rfl, fun _ => rfl, fun _ _ => rfl, fun _ _ _ _ => rfl, fun _ _ _ _ => rfl, fun _ _ => rfl, fun _ i => by cases i <;> rfl, fun _ _ _ _ => rfl, fun _ _ => rfl, fun _ _ _ _ => rfl, fun _ _ _ _ => rfl, fun _ _ _ _ => rfl⟩
end Go.Pv
namespace Go.Pv
open Go
theorem q_gen {P : Program} {G : Globs} {K : Env → St → Prop} {l : List LOper} {e : Env} {s s' : St} {o : LOper} {v : LV} (hg : wantedG o.guard e = some true) (hr : o.op.run e s = some (v, s')) (hs : strictOk o.fl o.op e = true) (hc : Chks o.chk (e.put o.dst v) s')
    (h : W P G K l (e.put o.dst v) s') : W P G K (o :: l) e s := ⟨pw_runF hg hr hs hc h.out⟩
theorem frzTry_all {l : List LV} {s : St} (h : LV.closed.closedAll l = true) : frzTry l s = (l, s) := by
  have : frz.frzAll (frz frzDepth) l s = some (l, s) := frzAll_closed h
  simp [frzTry, this]
theorem rowOf_simm {s : St} {cs : List LV} {n : Nat} (h : cs.length = n) : rowOf s 1 n (.simm cs n) = some cs := by
  simp [rowOf, h]
  exact List.take_of_length_le (by omega)
theorem appendLV_mutN {b j k n : Nat} {new : List LV} {s : St} {cs : List LV} (h : s.get j = some (.cells .mut cs)) (hl : cs.length = k) (hn : new.length = n) (hb : b ≤ 2 ^ 10) (hk : k + n ≤ 2 ^ 20) :
    appendLV 1 b (.sref j 0 k 1) new n s = some (.sref s.n 0 (k + n) 1, (s.put j (.cells .ro [])).new (.cells .mut (cs ++ new))) := by
  have : (k + n) * b ≤ big := by
    have : (k + n) * b ≤ 2 ^ 20 * 2 ^ 10 := Nat.mul_le_mul hk hb
    unfold big; omega
  simp only [appendLV, if_true, h, Nat.zero_add, Nat.mul_one, hl, Nat.le_refl, this, hn, and_self, List.drop_zero]
  rw [List.take_of_length_le (by omega)]
  rfl
theorem iaS {esz j off len i : Nat} {k : IntKind} {s : St} (h : (i : Int) < (len : Int)) : iaLV esz (.sref j off len esz) (.int k (i : Int)) s = some (.pref j (off + i * esz), s) := by
  have h' : i < len := by omega
  simp [iaLV, idxOf, h']
end Go.Pv
namespace Go.Pv
open Go
theorem q_storeG {P : Program} {G : Globs} {K : Env → St → Prop} {l : List LOper} {e : Env} {s : St} {fl : Bool} {a x : Opd} {i o n : Nat} {cs vs cs' : List LV} {v : LV} (ha : a.ev e = .pref i o) (hx : x.ev e = v) (hv : cells? v = some vs) (hs : s.get i = some (.cells .mut cs)) (hl : vs.length = n) (hb : o + n ≤ cs.length) (hc : splice cs o vs = cs')
    (h : W P G K l e (s.put i (.cells .mut cs'))) : W P G K (⟨none, .store n a x, none, [], fl⟩ :: l) e s :=
  q_gen (v := zeroVal) rfl (by simp only [LOp.run, ha, hx, hv, hs]; rw [if_pos ⟨hl, hb⟩, hc]) rfl trivial h
theorem run_bslice1 {e : Env} {s : St} {z v : LV} {x : Opd} (hx : x.ev e = v) (hc : isCell v = true) : (LOp.bslice 1 1 [z] [(0, (1, x))]).run e s = some (.sref s.n 0 1 1, s.new (.cells .mut [v])) := by
  simp [LOp.run, fillParts, evParts, rep, hx, cells_cell hc, splice]
end Go.Pv

set_option linter.unusedSimpArgs false
set_option linter.unusedVariables false
namespace Go.Pv
open Go
section
variable {P : Program} {G : Globs}
theorem stepW_mono {fl : Bool} {o : LOp} {e : Env} {s : St} {R R' : LV → St → Prop} (h : stepW P G fl o e s R) (hr : ∀ v s, R v s → R' v s) : stepW P G fl o e s R' := by
  cases o
  case call f as => exact CallOk.mono h fun v s hh => hr v s hh
  case mnext x => exact NextOk.mono h fun v s hh => hr v s hh
  case bin op x y =>
    simp only [stepW] at h ⊢
    split at h
    · exact fun b hb => hr _ _ (h b hb)
    · exact hr _ _ h
    · exact h
  case eq neg t x y =>
    simp only [stepW] at h ⊢
    split at h
    · exact fun b hb => hr _ _ (h b hb)
    · exact h
  all_goals
    simp only [stepW] at h ⊢
    split at h
    · exact ⟨h.1, hr _ _ h.2⟩
    · exact h
theorem wpOps_mono {K K' : Env → St → Prop} (hk : ∀ e s, K e s → K' e s) : ∀ {l : List LOper} {e : Env} {s : St}, wpOps P G K l e s → wpOps P G K' l e s := by
  intro l
  induction l with
  | nil => intro e s h; exact hk _ _ h
  | cons o l ih =>
    intro e s h
    simp only [wpOps] at h ⊢
    split
    · rename_i hw; rw [hw] at h; exact h
    · rename_i hw; rw [hw] at h; exact ih h
    · rename_i hw; rw [hw] at h; exact stepW_mono h fun v s hh => ⟨hh.1, ih hh.2⟩
theorem q_mono {K : Env → St → Prop} (K' : Env → St → Prop) {l : List LOper} {e : Env} {s : St} (h : W P G K' l e s) (hk : ∀ e s, K' e s → K e s) : W P G K l e s := ⟨wpOps_mono hk h.out⟩
theorem qc_mono {rd : Bool} {nt : Nat} {c : LCode} {e : Env} {s : St} {Q : Out → Env → St → Prop} (Q' : Out → Env → St → Prop) (h : Cd P G rd nt c e s Q') (hq : ∀ o e s, Q' o e s → Q o e s) : Cd P G rd nt c e s Q := ⟨CodeOk.mono h.out hq⟩
/-- What holds of an environment and a state, without their making. -/
theorem qc_gen {rd : Bool} {nt : Nat} {c : LCode} {e : Env} {s : St} {Q : Out → Env → St → Prop} (F : Env → St → Prop) (hF : F e s) (h : ∀ e s, F e s → Cd P G rd nt c e s Q) : Cd P G rd nt c e s Q := h e s hF
theorem w_gen {K : Env → St → Prop} {l : List LOper} {e : Env} {s : St} (F : Env → St → Prop) (hF : F e s) (h : ∀ e s, F e s → W P G K l e s) : W P G K l e s := h e s hF
end
end Go.Pv

set_option linter.unusedSimpArgs false
set_option linter.unusedVariables false
namespace Go.Pv
open Go
def loadLV (n : Option Nat) (p : LV) (s : St) : Option LV :=
  match p with
  | .pimm cs off => mkVal n cs off
  | .pref id off => match s.get id with | some (.cells _ cs) => mkVal n cs off | _ => none
  | _ => none
def faddrLV (off : Nat) : LV → Option LV
  | .pimm cs o => some (.pimm cs (o + off))
  | .pref i o => some (.pref i (o + off))
  | _ => none
def storeLV (n : Nat) (p v : LV) (s : St) : Option St :=
  match p, cells? v with
  | .pref id off, some vs =>
    match s.get id with
    | some (.cells .mut cs) => if vs.length = n ∧ off + n ≤ cs.length then some (s.put id (.cells .mut (splice cs off vs))) else none
    | _ => none
  | _, _ => none
def fieldLV (off : Nat) (n : Option Nat) : LV → Option LV
  | .agg cs => mkVal n cs off
  | _ => none
def pickB : Bool → LV → LV → LV
  | true, a, _ => a
  | false, _, b => b
def nilLV : LV → Bool
  | .pimm .. => true
  | .pref .. => true
  | .fn (.func _) _ _ => true
  | .yld _ => true
  | _ => false
theorem load_imm {cs : List LV} {o : Nat} {v : LV} {s : St} (h : cs[o]? = some v) : loadLV none (.pimm cs o) s = some v := h
theorem load_ref {m : Md} {cs : List LV} {i o : Nat} {v : LV} {s : St} (hs : s.get i = some (.cells m cs)) (h : cs[o]? = some v) : loadLV none (.pref i o) s = some v := by
  simp only [loadLV, hs]; exact h
theorem loadN_imm {cs vs : List LV} {o n : Nat} {s : St} (hn : Nat.ble (o + n) cs.length = true) (h : (cs.drop o).take n = vs) : loadLV (some n) (.pimm cs o) s = some (.agg vs) := by
  simp [loadLV, mkVal, Nat.le_of_ble_eq_true hn, h]
theorem loadN_ref {m : Md} {cs vs : List LV} {i o n : Nat} {s : St} (hs : s.get i = some (.cells m cs)) (hn : Nat.ble (o + n) cs.length = true) (h : (cs.drop o).take n = vs) : loadLV (some n) (.pref i o) s = some (.agg vs) := by
  simp [loadLV, mkVal, hs, Nat.le_of_ble_eq_true hn, h]
theorem store_ref {cs vs cs' : List LV} {i o n : Nat} {v : LV} {s : St} (hv : cells? v = some vs) (hs : s.get i = some (.cells .mut cs)) (hl : Nat.beq vs.length n = true) (hb : Nat.ble (o + n) cs.length = true) (hc : splice cs o vs = cs') : storeLV n (.pref i o) v s = some (s.put i (.cells .mut cs')) := by
  simp only [storeLV, hv, hs]
  rw [if_pos ⟨Nat.eq_of_beq_eq_true hl, Nat.le_of_ble_eq_true hb⟩, hc]

section
variable {P : Program} {G : Globs} {K : Env → St → Prop} {l : List LOper} {e : Env} {s : St} {d : Nat} {g : Option (Nat × Bool)} {fl : Bool}
theorem u_faddr {x : Opd} {off : Nat} {p r : LV} (hg : wantedG g e = some true) (hx : x.ev e = p) (hr : faddrLV off p = some r) (k : W P G K l (Tr.set e d r) s) : W P G K (⟨some d, .faddr off x, g, [], fl⟩ :: l) e s :=
  q_op hg rfl (by
    cases p <;> simp only [faddrLV, reduceCtorEq, Option.some.injEq] at hr
    all_goals (subst hr; simp [LOp.run, hx])) k
theorem u_load {x : Opd} {n : Option Nat} {p v : LV} (hg : wantedG g e = some true) (hx : x.ev e = p) (hr : loadLV n p s = some v) (k : W P G K l (Tr.set e d v) s) : W P G K (⟨some d, .load n x, g, [], fl⟩ :: l) e s :=
  q_op hg (by cases fl <;> rfl) (by
    cases p <;> simp only [loadLV, reduceCtorEq] at hr
    · simp [LOp.run, hx, hr]
    · rename_i i o
      simp only [LOp.run, hx]
      split at hr
      · rename_i h; simp [h, hr]
      · cases hr) k
theorem u_len {x : Opd} {v : LV} {n : Nat} (hg : wantedG g e = some true) (hx : x.ev e = v) (hv : slLen v = some n) (k : W P G K l (Tr.set e d (.int .i64 n)) s) : W P G K (⟨some d, .lenSl x, g, [], fl⟩ :: l) e s := q_len hg hx hv k
theorem u_un {op : UnOp} {x : Opd} {v r : LV} (hg : wantedG g e = some true) (hx : x.ev e = v) (hv : unLV op v = some r) (k : W P G K l (Tr.set e d r) s) : W P G K (⟨some d, .un op x, g, [], fl⟩ :: l) e s :=
  q_op hg rfl (by simp [LOp.run, hx, hv]) k
theorem u_field {x : Opd} {off : Nat} {n : Option Nat} {v r : LV} (hg : wantedG g e = some true) (hx : x.ev e = v) (hv : fieldLV off n v = some r) (k : W P G K l (Tr.set e d r) s) : W P G K (⟨some d, .field off n x, g, [], fl⟩ :: l) e s :=
  q_op hg rfl (by
    cases v <;> simp only [fieldLV, reduceCtorEq] at hv
    simp [LOp.run, hx, hv]) k
theorem u_conv {x : Opd} {k k' : IntKind} {n m : Int} (hg : wantedG g e = some true) (hx : x.ev e = .int k' n) (hv : k.wrap n = m) (h : W P G K l (Tr.set e d (.int k m)) s) : W P G K (⟨some d, .convInt k x, g, [], fl⟩ :: l) e s :=
  q_op hg rfl (by simp [LOp.run, hx, hv]) h
theorem u_mm {b : Bool} {x y : Opd} {v w r : LV} (hg : wantedG g e = some true) (hx : x.ev e = v) (hy : y.ev e = w) (hr : minmaxLV b [v, w] = some r) (k : W P G K l (Tr.set e d r) s) : W P G K (⟨some d, .minmax b [x, y], g, [], fl⟩ :: l) e s :=
  q_op hg rfl (by simp [LOp.run, hx, hy, hr]) k
theorem mm_max {k : IntKind} {a b : Int} : minmaxLV true [.int k a, .int k b] = some (.int k (max a b)) := by
  have hm : (if a < b then b else a) = max a b := by rw [Int.max_def]; split <;> split <;> omega
  simp [minmaxLV, minmaxLV.go, hm]
theorem mm_min {k : IntKind} {a b : Int} : minmaxLV false [.int k a, .int k b] = some (.int k (min a b)) := by
  have hm : (if b < a then b else a) = min a b := by rw [Int.min_def]; split <;> split <;> omega
  simp [minmaxLV, minmaxLV.go, hm]
theorem u_pick {c x y : Opd} {t : Bool} {a b v : LV} (hg : wantedG g e = some true) (hc : c.ev e = .bool t) (hx : x.ev e = a) (hy : y.ev e = b) (hr : pickB t a b = v) (k : W P G K l (Tr.set e d v) s) : W P G K (⟨some d, .pick c x y, g, [], fl⟩ :: l) e s :=
  q_op hg rfl (by cases t <;> simp only [pickB] at hr <;> simp [LOp.run, hc, hx, hy, hr]) k
theorem u_ext {x : Opd} {vs : List LV} {i : Nat} {v : LV} (hg : wantedG g e = some true) (hx : x.ev e = .tup vs) (hv : vs[i]? = some v) (k : W P G K l (Tr.set e d v) s) : W P G K (⟨some d, .ext x i, g, [], fl⟩ :: l) e s := q_ext hg hx hv k
theorem u_store {n : Nat} {a x : Opd} {p v : LV} {s' : St} (ha : a.ev e = p) (hx : x.ev e = v) (hr : storeLV n p v s = some s') (h : W P G K l e s') : W P G K (⟨none, .store n a x, none, [], fl⟩ :: l) e s :=
  q_gen (v := zeroVal) rfl (by
    unfold storeLV at hr
    split at hr
    · rename_i h1 h2
      simp only [LOp.run, ha, hx, h2]
      split at hr
      · rename_i h3
        simp only [h3]
        split at hr
        · rename_i h4; cases hr; rw [if_pos h4]
        · cases hr
      · cases hr
    · cases hr) (by cases fl <;> rfl) trivial h
theorem u_nilchk {x : Opd} {v : LV} (hg : wantedG g e = some true) (hx : x.ev e = v) (hv : nilLV v = true) (k : W P G K l (Tr.set e d v) s) : W P G K (⟨some d, .nilchk x, g, [], fl⟩ :: l) e s :=
  q_op hg rfl (by
    cases v with
    | fn f a b => cases f <;> first | (simp [nilLV] at hv; done) | (simp [LOp.run, hx]; done)
    | _ => first | (simp [nilLV] at hv; done) | (simp [LOp.run, hx]; done)) k
theorem u_mkfn {f : Fn} {a b : List Opd} {va vb : List LV} (hg : wantedG g e = some true) (ha : a.map (·.ev e) = va) (hb : b.map (·.ev e) = vb) (k : W P G K l (Tr.set e d (.fn f va vb)) s) : W P G K (⟨some d, .mkfn f a b, g, [], fl⟩ :: l) e s :=
  q_op hg rfl (by simp [LOp.run, ha, hb]) k
theorem u_skip {op : LOp} {i : Nat} {b c : Bool} {chk : List (Nat × Option (Nat × Bool) × LOp)} (h : e.at i = .bool c) (hn : (c == b) = false) (k : W P G K l (Tr.set e d (.tup [])) s) : W P G K (⟨some d, op, some (i, b), chk, fl⟩ :: l) e s := q_skip rfl h hn k
theorem u_skipN {op : LOp} {i : Nat} {b c : Bool} {chk : List (Nat × Option (Nat × Bool) × LOp)} (h : e.at i = .bool c) (hn : (c == b) = false) (k : W P G K l e s) : W P G K (⟨none, op, some (i, b), chk, fl⟩ :: l) e s := q_skip rfl h hn k
theorem u_box {x : Opd} {v : LV} {cs : List LV} (hx : x.ev e = v) (hv : cells? v = some cs) (hc : v.closed = true) (hl : Nat.beq cs.length 0 = false) (k : W P G K l (Tr.set e d (.pimm cs 0)) s) : W P G K (⟨some d, .box true x, none, [], false⟩ :: l) e s :=
  q_op rfl rfl (by
    have h0 : cs.length ≠ 0 := fun h => by rw [h] at hl; cases hl
    have h1 : cs ≠ [] := fun h => h0 (by rw [h]; rfl)
    simp [LOp.run, hx, frzD_closed hc, hv, h1]) k
theorem u_boxR {x : Opd} {v : LV} {cs : List LV} {m : Nat} (hx : x.ev e = v) (hv : cells? v = some cs) (hn : s.n = m) (k : W P G K l (Tr.set e d (.pref m 0)) (s.new (.cells .mut cs))) : W P G K (⟨some d, .box false x, none, [], fl⟩ :: l) e s := by
  subst hn
  exact q_op rfl rfl (by simp [LOp.run, hx, hv]) k
theorem ev_I {x : Opd} {v : LV} (h : x.ev e = v) : x.ev e = v := h
theorem at_I {i : Nat} {v : LV} (h : e.at i = v) : e.at i = v := h
theorem map_I {a : List Opd} {v : List LV} (h : a.map (·.ev e) = v) : a.map (·.ev e) = v := h
theorem n_I {m : Nat} (h : s.n = m) : s.n = m := h
theorem cells_I {v : LV} {cs : List LV} (h : cells? v = some cs) : cells? v = some cs := h
theorem closed_I {v : LV} (h : v.closed = true) : v.closed = true := h
theorem pick_I {t : Bool} {a b v : LV} (h : pickB t a b = v) : pickB t a b = v := h
theorem wrap_I {k : IntKind} {n m : Int} (h : k.wrap n = m) : k.wrap n = m := h
theorem fa_I {off : Nat} {p r : LV} (h : faddrLV off p = some r) : faddrLV off p = some r := h
theorem u_lss {x y : Opd} {a b : LV} {b0 : Bool} (hg : wantedG g e = some true) (hx : x.ev e = a) (hy : y.ev e = b) (hr : binLV .lss a b = some (.bool b0)) (k : ∀ b, b0 = b → W P G K l (Tr.set e d (.bool b)) s) : W P G K (⟨some d, .bin .lss x y, g, [], fl⟩ :: l) e s := q_cmp hg hx hy hr k
theorem u_leq {x y : Opd} {a b : LV} {b0 : Bool} (hg : wantedG g e = some true) (hx : x.ev e = a) (hy : y.ev e = b) (hr : binLV .leq a b = some (.bool b0)) (k : ∀ b, b0 = b → W P G K l (Tr.set e d (.bool b)) s) : W P G K (⟨some d, .bin .leq x y, g, [], fl⟩ :: l) e s := q_cmp hg hx hy hr k
theorem u_gtr {x y : Opd} {a b : LV} {b0 : Bool} (hg : wantedG g e = some true) (hx : x.ev e = a) (hy : y.ev e = b) (hr : binLV .gtr a b = some (.bool b0)) (k : ∀ b, b0 = b → W P G K l (Tr.set e d (.bool b)) s) : W P G K (⟨some d, .bin .gtr x y, g, [], fl⟩ :: l) e s := q_cmp hg hx hy hr k
theorem u_geq {x y : Opd} {a b : LV} {b0 : Bool} (hg : wantedG g e = some true) (hx : x.ev e = a) (hy : y.ev e = b) (hr : binLV .geq a b = some (.bool b0)) (k : ∀ b, b0 = b → W P G K l (Tr.set e d (.bool b)) s) : W P G K (⟨some d, .bin .geq x y, g, [], fl⟩ :: l) e s := q_cmp hg hx hy hr k
theorem u_eql {x y : Opd} {a b : LV} {b0 : Bool} (hg : wantedG g e = some true) (hx : x.ev e = a) (hy : y.ev e = b) (hr : binLV .eql a b = some (.bool b0)) (k : ∀ b, b0 = b → W P G K l (Tr.set e d (.bool b)) s) : W P G K (⟨some d, .bin .eql x y, g, [], fl⟩ :: l) e s := q_cmp hg hx hy hr k
theorem u_neq {x y : Opd} {a b : LV} {b0 : Bool} (hg : wantedG g e = some true) (hx : x.ev e = a) (hy : y.ev e = b) (hr : binLV .neq a b = some (.bool b0)) (k : ∀ b, b0 = b → W P G K l (Tr.set e d (.bool b)) s) : W P G K (⟨some d, .bin .neq x y, g, [], fl⟩ :: l) e s := q_cmp hg hx hy hr k
theorem u_alloc {z : List LV} {m : Nat} (hg : wantedG g e = some true) (hn : s.n = m) (k : W P G K l (Tr.set e d (.pref m 0)) (s.new (.cells .mut z))) : W P G K (⟨some d, .alloc z, g, [], fl⟩ :: l) e s := by
  subst hn; exact q_alloc hg k
theorem u_bslice0 {esz : Nat} {z : List LV} {m : Nat} (hg : wantedG g e = some true) (hn : s.n = m) (k : W P G K l (Tr.set e d (.sref m 0 0 esz)) (s.new (.cells .mut []))) : W P G K (⟨some d, .bslice esz 0 z [], g, [], fl⟩ :: l) e s := by
  subst hn; exact q_bslice0 hg k
theorem u_bslice1 {z : LV} {x : Opd} {v : LV} {m : Nat} (hg : wantedG g e = some true) (hn : s.n = m) (hx : x.ev e = v) (hc : cells? v = some [v]) (k : W P G K l (Tr.set e d (.sref m 0 1 1)) (s.new (.cells .mut [v]))) : W P G K (⟨some d, .bslice 1 1 [z] [(0, (1, x))], g, [], fl⟩ :: l) e s := by
  subst hn
  exact q_op hg rfl (by simp [LOp.run, fillParts, evParts, rep, hx, hc, splice]) k
end
theorem u5 : (∀ cs, (LV.agg cs).closed = LV.closed.closedAll cs) ∧ LV.closed.closedAll [] = true ∧ (∀ v r, LV.closed.closedAll (v :: r) = (v.closed && LV.closed.closedAll r)) ∧ (∀ k n, (LV.int k n).closed = true) ∧ (∀ b, (LV.bool b).closed = true) ∧ (∀ b, (LV.str b).closed = true) ∧ LV.nils.closed = true ∧ LV.zs.closed = true ∧ (∀ cs n, (LV.simm cs n).closed = LV.closed.closedAll cs) ∧ (∀ b : Bool, (b && b) = b) ∧ (∀ b : Bool, (true && b) = b) :=
  ⟨fun _ => rfl, rfl, fun _ _ => rfl, fun _ _ => rfl, fun _ => rfl, fun _ => rfl, rfl, rfl, fun _ _ => rfl, Bool.and_self, Bool.true_and⟩
theorem u1 : (∀ (s : St) (id j : Nat) (b : Blk), (s.put id b).get j = if j = id then some b else s.get j) ∧ (∀ (s : St) (j : Nat) (b : Blk), (s.new b).get j = if j = s.n then some b else s.get j) ∧ (∀ (s : St) (id : Nat) (b : Blk), (s.put id b).n = s.n) ∧ (∀ (s : St) (b : Blk), (s.new b).n = s.n + 1) ∧ St.empty.n = 0 ∧ (∀ n : Nat, 0 + n = n) ∧ (∀ n : Nat, n * 1 = n) :=
  ⟨St.get_put, St.get_new, St.n_put, St.n_new, rfl, Nat.zero_add, Nat.mul_one⟩
theorem u2 : (∀ (α : Type) (x : α) (l : List α), (x :: l)[0]? = some x) ∧ (∀ (α : Type) (x : α) (l : List α) (i : Nat), (x :: l)[i + 1]? = l[i]?) ∧ (∀ (α : Type) (x : α) (l : List α), (x :: l).length = l.length + 1) ∧ (∀ α : Type, ([] : List α).length = 0) ∧
    (∀ (α : Type) (l : List α), l.drop 0 = l) ∧ (∀ (α : Type) (x : α) (l : List α) (i : Nat), (x :: l).drop (i + 1) = l.drop i) ∧ (∀ (α : Type) (x : α) (l : List α) (i : Nat), (x :: l).take (i + 1) = x :: l.take i) ∧ (∀ (α : Type) (l : List α), l.take 0 = []) ∧ (∀ (α : Type) (i : Nat), ([] : List α).take i = []) :=
  ⟨fun _ _ _ => rfl, fun _ _ _ _ => rfl, fun _ _ _ => rfl, fun _ => rfl, fun _ _ => rfl, fun _ _ _ _ => rfl, fun _ _ _ _ => rfl, fun _ _ => rfl, fun _ i => by cases i <;> rfl⟩
theorem u3 : (∀ (k : IntKind) (n : Int), cells? (.int k n) = some [.int k n]) ∧ (∀ b : Bool, cells? (.bool b) = some [.bool b]) ∧ (∀ b : ByteArray, cells? (.str b) = some [.str b]) ∧ cells? .nils = some [.nils] ∧ cells? .zs = some [.zs] ∧ (∀ (cs : List LV) (n : Nat), cells? (.simm cs n) = some [.simm cs n]) ∧
    (∀ i o n z : Nat, cells? (.sref i o n z) = some [.sref i o n z]) ∧ (∀ i o : Nat, cells? (.pref i o) = some [.pref i o]) ∧ (∀ (cs : List LV) (o : Nat), cells? (.pimm cs o) = some [.pimm cs o]) ∧ (∀ i : Nat, cells? (.mref i) = some [.mref i]) ∧ cells? .nilm = some [.nilm] ∧ (∀ (f : Fn) (a b : List LV), cells? (.fn f a b) = some [.fn f a b]) ∧ cells? .nilp = some [.nilp] :=
  ⟨fun _ _ => rfl, fun _ => rfl, fun _ => rfl, rfl, rfl, fun _ _ => rfl, fun _ _ _ _ => rfl, fun _ _ => rfl, fun _ _ => rfl, fun _ => rfl, rfl, fun _ _ _ => rfl, rfl⟩
theorem u4 : (∀ cs : List LV, cells? (.agg cs) = if cs.all isCell then some cs else none) ∧ (∀ {v : LV}, isCell v = true → cells? v = some [v]) ∧ (∀ (k : IntKind) (n : Int), isCell (.int k n) = true) ∧ (∀ b : Bool, isCell (.bool b) = true) ∧ (∀ b : ByteArray, isCell (.str b) = true) ∧ isCell .nils = true ∧ isCell .zs = true ∧ (∀ (cs : List LV) (n : Nat), isCell (.simm cs n) = true) ∧ (∀ i o n z : Nat, isCell (.sref i o n z) = true) ∧
    (∀ (p : LV → Bool) (x : LV) (l : List LV), (x :: l).all p = (p x && l.all p)) ∧ (∀ p : LV → Bool, ([] : List LV).all p = true) ∧ (∀ b : Bool, (b && b) = b) ∧ (∀ b : Bool, (true && b) = b) :=
  ⟨cells_agg, cells_cell, fun _ _ => rfl, fun _ => rfl, fun _ => rfl, rfl, rfl, fun _ _ => rfl, fun _ _ _ _ => rfl, fun _ _ _ => rfl, fun _ => rfl, Bool.and_self, Bool.true_and⟩
end Go.Pv
