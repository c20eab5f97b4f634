/- Plain code, one rule an operation. -/
import Derived.Test.YtmfpcofncfhklaaPvView
set_option linter.unusedSimpArgs false
set_option linter.unusedVariables false
namespace Go.Pv
open Go
/-- Operations to come; a wrapper that unification does not look behind. -/
structure W (P : Program) (G : Globs) (K : Env → St → Prop) (l : List LOper) (e : Env) (s : St) : Prop where
  out : wpOps P G K l e s
/-- Code to come. -/
structure Cd (P : Program) (G : Globs) (rd : Bool) (nt : Nat) (c : LCode) (e : Env) (s : St) (Q : Out → Env → St → Prop) : Prop where
  out : CodeOk P G rd nt c e s Q

section
variable {P : Program} {G : Globs} {K : Env → St → Prop} {l : List LOper} {e : Env} {s : St} {d : Nat} {g : Option (Nat × Bool)} {fl : Bool}

theorem wN : wantedG none e = some true := rfl
theorem wG {i : Nat} {b : Bool} (h : e.at i = .bool b) : wantedG (some (i, b)) e = some true := by simp [wantedG, h]
theorem wG0 {i : Nat} {b c : Bool} (h : e.at i = .bool c) (hn : (c == b) = false) : wantedG (some (i, b)) e = some false := by simp [wantedG, h, hn]

theorem q_skip {o : LOper} {i : Nat} {b c : Bool} (ho : o.guard = some (i, b)) (h : e.at i = .bool c) (hn : (c == b) = false) (k : W P G K l (e.put o.dst (.tup [])) s) : W P G K (o :: l) e s := ⟨pw_skipF (by rw [ho]; exact wG0 h hn) k.out⟩
theorem q_op {op : LOp} {v : LV} {s' : St} (hg : wantedG g e = some true) (hs : strictOk fl op e = true) (hr : op.run e s = some (v, s')) (k : W P G K l (Tr.set e d v) s') : W P G K (⟨some d, op, g, [], fl⟩ :: l) e s :=
  ⟨pw_runF hg hr hs trivial k.out⟩
theorem q_mv {x : Opd} {v : LV} (hg : wantedG g e = some true) (hx : x.ev e = v) (k : W P G K l (Tr.set e d v) s) : W P G K (⟨some d, .mv x, g, [], fl⟩ :: l) e s :=
  q_op hg rfl (by simp [LOp.run, hx]) k
theorem q_faddr {x : Opd} {off o : Nat} {cs : List LV} (hg : wantedG g e = some true) (hx : x.ev e = .pimm cs o) (k : W P G K l (Tr.set e d (.pimm cs (o + off))) s) : W P G K (⟨some d, .faddr off x, g, [], fl⟩ :: l) e s :=
  q_op hg rfl (by simp [LOp.run, hx]) k
theorem q_faddrR {x : Opd} {off o i : Nat} (hg : wantedG g e = some true) (hx : x.ev e = .pref i o) (k : W P G K l (Tr.set e d (.pref i (o + off))) s) : W P G K (⟨some d, .faddr off x, g, [], fl⟩ :: l) e s :=
  q_op hg rfl (by simp [LOp.run, hx]) k
theorem q_load {x : Opd} {o : Nat} {cs : List LV} {v : LV} (hg : wantedG g e = some true) (hx : x.ev e = .pimm cs o) (hv : cs[o]? = some v) (k : W P G K l (Tr.set e d v) s) : W P G K (⟨some d, .load none x, g, [], fl⟩ :: l) e s :=
  q_op hg rfl (by simp [LOp.run, hx, mkVal, hv]) k
theorem q_loadN {x : Opd} {o n : Nat} {cs : List LV} {v : List LV} (hg : wantedG g e = some true) (hx : x.ev e = .pimm cs o) (hn : Nat.ble (o + n) cs.length = true) (hv : (cs.drop o).take n = v) (k : W P G K l (Tr.set e d (.agg v)) s) : W P G K (⟨some d, .load (some n) x, g, [], fl⟩ :: l) e s :=
  q_op hg rfl (by simp [LOp.run, hx, mkVal, Nat.le_of_ble_eq_true hn, hv]) k
theorem q_loadR {x : Opd} {i o : Nat} {m : Md} {cs : List LV} {v : LV} (hg : wantedG g e = some true) (hx : x.ev e = .pref i o) (hs : s.get i = some (.cells m cs)) (hv : cs[o]? = some v) (k : W P G K l (Tr.set e d v) s) : W P G K (⟨some d, .load none x, g, [], fl⟩ :: l) e s :=
  q_op hg rfl (by simp [LOp.run, hx, hs, mkVal, hv]) k
theorem q_loadRN {x : Opd} {i o n : Nat} {m : Md} {cs : List LV} {v : List LV} (hg : wantedG g e = some true) (hx : x.ev e = .pref i o) (hs : s.get i = some (.cells m cs)) (hn : Nat.ble (o + n) cs.length = true) (hv : (cs.drop o).take n = v) (k : W P G K l (Tr.set e d (.agg v)) s) : W P G K (⟨some d, .load (some n) x, g, [], fl⟩ :: l) e s :=
  q_op hg rfl (by simp [LOp.run, hx, hs, mkVal, Nat.le_of_ble_eq_true hn, hv]) k
theorem q_len {x : Opd} {v : LV} {n : Nat} (hg : wantedG g e = some true) (hx : x.ev e = v) (hv : slLen v = some n) (k : W P G K l (Tr.set e d (.int .i64 n)) s) : W P G K (⟨some d, .lenSl x, g, [], fl⟩ :: l) e s :=
  q_op hg rfl (by simp [LOp.run, hx, hv]) k
theorem q_iaddr {x i : Opd} {esz : Nat} {v iv r : LV} {s' : St} (hg : wantedG g e = some true) (hx : x.ev e = v) (hi : i.ev e = iv) (hv : iaLV esz v iv s = some (r, s')) (k : W P G K l (Tr.set e d r) s') : W P G K (⟨some d, .iaddr esz x i, g, [], fl⟩ :: l) e s :=
  q_op hg rfl (by rw [run_iaddr, hx, hi, hv]) k
theorem q_cmp {op : BinOp} {x y : Opd} {a b : LV} {b0 : Bool} (hg : wantedG g e = some true) (hx : x.ev e = a) (hy : y.ev e = b) (hr : binLV op a b = some (.bool b0)) (k : ∀ b, b0 = b → W P G K l (Tr.set e d (.bool b)) s) : W P G K (⟨some d, .bin op x y, g, [], fl⟩ :: l) e s :=
  ⟨pw_binF hg (by rw [hx, hy]; exact hr) fun b hb => (k b hb).out⟩
theorem q_bin {op : BinOp} {x y : Opd} {a b : LV} {v : LV} (hg : wantedG g e = some true) (hx : x.ev e = a) (hy : y.ev e = b) (hr : binLV op a b = some v) (k : W P G K l (Tr.set e d v) s) : W P G K (⟨some d, .bin op x y, g, [], fl⟩ :: l) e s :=
  q_op hg rfl (by simp [LOp.run, hx, hy, hr]) k
theorem q_not {x : Opd} {b : Bool} (hg : wantedG g e = some true) (hx : x.ev e = .bool b) (k : W P G K l (Tr.set e d (.bool !b)) s) : W P G K (⟨some d, .un .not x, g, [], fl⟩ :: l) e s :=
  q_op hg rfl (by simp [LOp.run, hx, unLV]) k
theorem q_pickT {c x y : Opd} {v : LV} (hg : wantedG g e = some true) (hc : c.ev e = .bool true) (hx : x.ev e = v) (k : W P G K l (Tr.set e d v) s) : W P G K (⟨some d, .pick c x y, g, [], fl⟩ :: l) e s :=
  q_op hg rfl (by simp [LOp.run, hc, hx]) k
theorem q_pickF {c x y : Opd} {v : LV} (hg : wantedG g e = some true) (hc : c.ev e = .bool false) (hx : y.ev e = v) (k : W P G K l (Tr.set e d v) s) : W P G K (⟨some d, .pick c x y, g, [], fl⟩ :: l) e s :=
  q_op hg rfl (by simp [LOp.run, hc, hx]) k
theorem q_box {x : Opd} {cs : List LV} (hx : x.ev e = .agg cs) (hc : (LV.agg cs).closed = true) (ha : cs.all isCell = true) (hl : Nat.beq cs.length 0 = false) (k : W P G K l (Tr.set e d (.pimm cs 0)) s) : W P G K (⟨some d, .box true x, none, [], false⟩ :: l) e s :=
  q_op rfl rfl (by
    have h0 : cs.length ≠ 0 := fun h => by rw [h] at hl; cases hl
    have h1 : cs ≠ [] := fun h => h0 (by rw [h]; rfl)
    simp [LOp.run, hx, frzD_closed hc, cells_agg, ha, h1]) k

theorem q_max2 {x y : Opd} {k : IntKind} {a b : Int} (hg : wantedG g e = some true) (hx : x.ev e = .int k a) (hy : y.ev e = .int k b) (h : W P G K l (Tr.set e d (.int k (max a b))) s) : W P G K (⟨some d, .minmax true [x, y], g, [], fl⟩ :: l) e s :=
  q_op hg rfl (by
    have hm : (if a < b then b else a) = max a b := by rw [Int.max_def]; split <;> split <;> omega
    simp [LOp.run, hx, hy, minmaxLV, minmaxLV.go, hm]) h
theorem q_min2 {x y : Opd} {k : IntKind} {a b : Int} (hg : wantedG g e = some true) (hx : x.ev e = .int k a) (hy : y.ev e = .int k b) (h : W P G K l (Tr.set e d (.int k (min a b))) s) : W P G K (⟨some d, .minmax false [x, y], g, [], fl⟩ :: l) e s :=
  q_op hg rfl (by
    have hm : (if b < a then b else a) = min a b := by rw [Int.min_def]; split <;> split <;> omega
    simp [LOp.run, hx, hy, minmaxLV, minmaxLV.go, hm]) h
theorem q_eq {neg : Bool} {t : EqTy} {x y : Opd} {a b : LV} {b0 : Bool} (hg : wantedG g e = some true) (hx : x.ev e = a) (hy : y.ev e = b) (hr : eqLV t a b = some b0) (k : ∀ b, (if neg then !b0 else b0) = b → W P G K l (Tr.set e d (.bool b)) s) : W P G K (⟨some d, .eq neg t x y, g, [], fl⟩ :: l) e s :=
  ⟨pw_eqF hg (by rw [hx, hy]; exact hr) fun b hb => (k b hb).out⟩
/-- An operation, whatever it be, run. -/
theorem q_run0 {op : LOp} {s' : St} {v : LV} (hr : op.run e s = some (v, s')) (h : W P G K l (Tr.set e d v) s') : W P G K (⟨some d, op, none, [], false⟩ :: l) e s := ⟨pw_run0 hr h.out⟩
theorem q_runN {op : LOp} {s' : St} {v : LV} (hr : op.run e s = some (v, s')) (h : W P G K l e s') : W P G K (⟨none, op, none, [], false⟩ :: l) e s := ⟨pw_runN hr h.out⟩
theorem q_store {a x : Opd} {i o n : Nat} {cs : List LV} {v : LV} {vs : List LV} (ha : a.ev e = .pref i o) (hx : x.ev e = v) (hv : cells? v = some vs) (hs : s.get i = some (.cells .mut cs)) (hl : Nat.beq vs.length n = true) (hb : Nat.ble (o + n) cs.length = true) (h : W P G K l e (s.put i (.cells .mut (splice cs o vs)))) : W P G K (⟨none, .store n a x, none, [], false⟩ :: l) e s :=
  q_runN (v := zeroVal) (by simp only [LOp.run, ha, hx, hv, hs]; rw [if_pos ⟨Nat.eq_of_beq_eq_true hl, Nat.le_of_ble_eq_true hb⟩]) h
theorem q_pure (hG : ∀ x ∈ G, LV.closed.closedAll x.2 = true) {dst : Option Nat} {chk : List (Nat × Option (Nat × Bool) × LOp)} {as : List Opd} {vs : List LV} {fv r : LV} (hp : PureOk P G fv vs r) (hg : wantedG g e = some true) (ha : as.map (·.ev e) = vs)
    (hc : Chks chk (e.put dst r) s) (h : W P G K l (e.put dst r) s) : W P G K (⟨dst, .call (.c fv) as, g, chk, fl⟩ :: l) e s := ⟨pw_pure hG hp hg ha hc h.out⟩
theorem q_pureEx (hG : ∀ x ∈ G, LV.closed.closedAll x.2 = true) {dst : Option Nat} {chk : List (Nat × Option (Nat × Bool) × LOp)} {as : List Opd} {vs : List LV} {fv : LV} {R : LV → Prop} (hp : PureEx P G fv vs R) (hg : wantedG g e = some true) (ha : as.map (·.ev e) = vs)
    (h : ∀ r, R r → r.closed = true → Chks chk (e.put dst r) s ∧ W P G K l (e.put dst r) s) : W P G K (⟨dst, .call (.c fv) as, g, chk, fl⟩ :: l) e s := ⟨pw_pureEx hG hp hg ha fun r hr hc => ⟨(h r hr hc).1, (h r hr hc).2.out⟩⟩
theorem q_pureB (hG : ∀ x ∈ G, LV.closed.closedAll x.2 = true) {dst : Option Nat} {chk : List (Nat × Option (Nat × Bool) × LOp)} {as : List Opd} {vs : List LV} {fv : LV} {b0 : Bool} (hp : PureOk P G fv vs (.bool b0)) (hg : wantedG g e = some true) (ha : as.map (·.ev e) = vs)
    (h : ∀ b, b0 = b → Chks chk (e.put dst (.bool b)) s ∧ W P G K l (e.put dst (.bool b)) s) : W P G K (⟨dst, .call (.c fv) as, g, chk, fl⟩ :: l) e s := ⟨pw_pureB hG hp hg ha fun b hb => ⟨(h b hb).1, (h b hb).2.out⟩⟩
theorem q_call {dst : Option Nat} {chk : List (Nat × Option (Nat × Bool) × LOp)} {f : Opd} {as : List Opd} {vs : List LV} {fv : LV} (hg : wantedG g e = some true) (hf : f.ev e = fv) (ha : as.map (·.ev e) = vs)
    (h : CallOk P G fv vs s (fun v s' => Chks chk (e.put dst v) s' ∧ W P G K l (e.put dst v) s')) : W P G K (⟨dst, .call f as, g, chk, fl⟩ :: l) e s :=
  ⟨pw_callF rfl hg (by rw [hf, ha]; exact CallOk.mono h fun v s hh => ⟨hh.1, hh.2.out⟩)⟩
theorem q_nil (h : K e s) : W P G K [] e s := ⟨h⟩

variable {rd : Bool} {nt : Nat} {Q : Out → Env → St → Prop}
theorem qc_skip (h : Q .normal e s) : Cd P G rd nt .skip e s Q := ⟨ok_skip h⟩
theorem qc_exit {id : Nat} (h : Q (.jmp (.exit id)) e s) : Cd P G rd nt (.exit id) e s Q := ⟨ok_exit h⟩
theorem qc_ret (h : Q (.jmp .ret) e s) : Cd P G rd nt .ret e s Q := ⟨ok_ret h⟩
theorem qc_block {id : Nat} {x : LCode} (h : Cd P G rd nt x e s (Blkd id Q)) : Cd P G rd nt (.block id x) e s Q := ⟨ok_block h.out⟩
theorem qc_scope {x : LCode} (h : Cd P G rd nt x e s Q) : Cd P G rd nt (.scope x) e s Q := ⟨ok_scope h.out⟩
theorem qc_seq {a b : LCode} (h : Cd P G rd nt a e s (Thn (fun e s => Cd P G rd nt b e s Q) Q)) : Cd P G rd nt (.seq a b) e s Q :=
  ⟨ok_seq (CodeOk.mono h.out fun o e s hh => by cases o with | normal => exact Cd.out hh | jmp j => exact hh)⟩
theorem qc_region (hm : P.follows .mixedOrders = true) {l : List LOper} (h : W P G (fun e s => Q .normal e s) l e s) : Cd P G rd nt (.region l) e s Q := ⟨pw_region hm h.out⟩
theorem qc_condT {x : Opd} {a b : LCode} (hx : x.ev e = .bool true) (h : Cd P G rd nt a e s Q) : Cd P G rd nt (.cond x a b) e s Q := ⟨pw_condT hx h.out⟩
theorem qc_condF {x : Opd} {a b : LCode} (hx : x.ev e = .bool false) (h : Cd P G rd nt b e s Q) : Cd P G rd nt (.cond x a b) e s Q := ⟨pw_condF hx h.out⟩
theorem qc_loop {x : LCode} (I : Nat → Env → St → Prop) (n : Nat) (h : I n e s)
    (hI : ∀ n e s, I n e s → Cd P G rd nt x e s (Thn (fun e s => ∃ m, m < n ∧ I m e s) Q)) : Cd P G rd nt (.loop x) e s Q := ⟨ok_loop_inv I (fun n e s h => (hI n e s h).out) n h⟩
theorem q_fn {k : Nat} {fn : Func} {refs : List Nat} {lf : LFunc} {args : List LV} {r : LV} {t : Nat} (hm : P.follows .mixedOrders = true) (hf : P.funcs[k]? = some fn) (hn : (fn.name == "runtime.NumGoroutine") = false) (hc : compFunc P G refs fn = some lf)
    (hlen : args.length ≤ lf.ntmps) (ha : LV.closed.closedAll args = true) (hr : r.closed = true) (ht : lf.results = [.tmp t])
    (h : Cd P G false lf.ntmps lf.body (envOf args) St.empty (fun o e s => (o = .normal ∨ o = .jmp .ret) ∧ e.at t = r)) : PureOk P G (.fn (.func k) [] []) args r := pure_tmp hm hf hn hc hlen ha hr ht h.out
theorem q_fnEx {k : Nat} {fn : Func} {refs : List Nat} {lf : LFunc} {args : List LV} {R : LV → Prop} {t : Nat} (hm : P.follows .mixedOrders = true) (hf : P.funcs[k]? = some fn) (hn : (fn.name == "runtime.NumGoroutine") = false) (hc : compFunc P G refs fn = some lf)
    (hlen : args.length ≤ lf.ntmps) (ha : LV.closed.closedAll args = true) (ht : lf.results = [.tmp t])
    (h : Cd P G false lf.ntmps lf.body (envOf args) St.empty (fun o e s => (o = .normal ∨ o = .jmp .ret) ∧ ∃ r s', frz frzDepth (e.at t) s = some (r, s') ∧ r.closed = true ∧ R r)) : PureEx P G (.fn (.func k) [] []) args R := pureEx_tmp hm hf hn hc hlen ha ht h.out
end

/-- What is forgotten does not matter. -/
theorem code_forget {P : Program} {G : Globs} {rd : Bool} {nt : Nat} {c : LCode} {e e2 : Env} {s : St} {Q : Out → Env → St → Prop} (he : ∀ t, e2.at t = e.at t ∨ e2.at t = .top) (h : CodeOk P G rd nt c e2 s Q) : CodeOk P G rd nt c e s Q := by
  intro c' hc w0 μ ι δ w b a k cs hb hf
  refine h c' hc w0 μ ι δ w b a k cs hb ⟨hf.now, fun t => ?_, hf.size⟩
  rcases he t with h | h
  · rw [h]; exact hf.re t
  · rw [h]; exact .top _

/-- Only some temporaries kept. -/
def keep (e : Env) : List Nat → Env
  | [] => .nil
  | t :: r => Tr.set (keep e r) t (e.at t)
theorem keep_at (e : Env) : ∀ (l : List Nat) (t : Nat), (keep e l).at t = e.at t ∨ (keep e l).at t = .top := by
  intro l
  induction l with
  | nil => intro t; exact .inr rfl
  | cons i r ih =>
    intro t
    simp only [keep, Env.at_set]
    split
    · rename_i h; subst h; exact .inl rfl
    · exact ih t
theorem qc_keep {P : Program} {G : Globs} {rd : Bool} {nt : Nat} {c : LCode} {e : Env} {s : St} {Q : Out → Env → St → Prop} (l : List Nat) (h : Cd P G rd nt c (keep e l) s Q) : Cd P G rd nt c e s Q := ⟨code_forget (keep_at e l) h.out⟩
theorem code_keep {P : Program} {G : Globs} {rd : Bool} {nt : Nat} {c : LCode} {e : Env} {s : St} {Q : Out → Env → St → Prop} (l : List Nat) (h : CodeOk P G rd nt c (keep e l) s Q) : CodeOk P G rd nt c e s Q := code_forget (keep_at e l) h
end Go.Pv
