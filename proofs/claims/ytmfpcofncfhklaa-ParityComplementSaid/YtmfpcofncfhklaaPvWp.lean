/- Plain code told backwards: what must hold ahead of it, so that something holds behind it; a form that 'simp' takes apart. -/
import Derived.Test.YtmfpcofncfhklaaPvClose
set_option linter.unusedSimpArgs false
set_option linter.unusedVariables false
namespace Go.Pv
open Go

section
variable {P : Program} {G : Globs}

/-- A continuation: not to be taken apart yet. -/
def Later (p : Prop) : Prop := p
theorem Later.mk {p : Prop} (h : p) : Later p := h

/-- One operation, wanted. -/
def stepW (P : Program) (G : Globs) (fl : Bool) (o : LOp) (e : Env) (s : St) (R : LV → St → Prop) : Prop :=
  match o with
  | .call f as => CallOk P G (f.ev e) (as.map (·.ev e)) s fun v s => Later (R v s)
  | .mnext x => NextOk (x.ev e) s fun v s => Later (R v s)
  | .bin op x y =>
    match binLV op (x.ev e) (y.ev e) with
    | some (.bool b0) => ∀ b, b0 = b → Later (R (.bool b) s)
    | some v => R v s
    | none => False
  | .eq neg t x y =>
    match eqLV t (x.ev e) (y.ev e) with
    | some b0 => ∀ b, (if neg then !b0 else b0) = b → Later (R (.bool b) s)
    | none => False
  | o =>
    match o.run e s with
    | some (v, s') => strictOk fl o e = true ∧ R v s'
    | none => False

def wpOps (P : Program) (G : Globs) (K : Env → St → Prop) : List LOper → Env → St → Prop
  | [], e, s => K e s
  | o :: l, e, s =>
    match wantedG o.guard e with
    | none => False
    | some false => wpOps P G K l (e.put o.dst (.tup [])) s
    | some true => stepW P G o.fl o.op e s (fun v s' => Chks o.chk (e.put o.dst v) s' ∧ wpOps P G K l (e.put o.dst v) s')

theorem stepW_ok {fl : Bool} {o : LOp} {e : Env} {s : St} {R : LV → St → Prop} (h : stepW P G fl o e s R) : OpGo P G fl o e s R := by
  cases o
  case call f as => exact h
  case mnext x => exact h
  case bin op x y =>
    simp only [stepW] at h
    simp only [OpGo, LOp.run]
    split at h
    · rename_i b0 hb
      rw [hb]
      exact ⟨rfl, h b0 rfl⟩
    · rename_i v hne hv
      rw [hv]
      exact ⟨rfl, h⟩
    · exact h.elim
  case eq neg t x y =>
    simp only [stepW] at h
    simp only [OpGo, LOp.run]
    split at h
    · rename_i b0 hb
      rw [hb]
      exact ⟨rfl, h _ rfl⟩
    · exact h.elim
  all_goals exact h

theorem wpOps_ok {K : Env → St → Prop} : ∀ {l : List LOper} {e : Env} {s : St}, wpOps P G K l e s → Chain P G l e s K := by
  intro l
  induction l with
  | nil => intro e s h; exact h
  | cons o l ih =>
    intro e s h
    simp only [wpOps] at h
    simp only [Chain]
    cases hw : wantedG o.guard e with
    | none => rw [hw] at h; exact h.elim
    | some b =>
      rw [hw] at h
      cases b with
      | false => exact ih h
      | true => exact (stepW_ok h).mono fun v s hh => ⟨hh.1, ih hh.2⟩

def wpC (P : Program) (G : Globs) (rd : Bool) (nt : Nat) : LCode → Env → St → (Out → Env → St → Prop) → Prop
  | .skip, e, s, Q => Q .normal e s
  | .region l, e, s, Q => wpOps P G (fun e s => Q .normal e s) l e s
  | .seq a b, e, s, Q => wpC P G rd nt a e s (Thn (fun e s => wpC P G rd nt b e s Q) Q)
  | .cond x a b, e, s, Q =>
    match x.ev e with
    | .bool t => if t then wpC P G rd nt a e s Q else wpC P G rd nt b e s Q
    | _ => False
  | .block id a, e, s, Q => wpC P G rd nt a e s (Blkd id Q)
  | .loop a, e, s, Q => CodeOk P G rd nt (.loop a) e s Q
  | .rangeFunc y ps as bo, e, s, Q => CodeOk P G rd nt (.rangeFunc y ps as bo) e s Q
  | .exit id, e, s, Q => Q (.jmp (.exit id)) e s
  | .scope a, e, s, Q => wpC P G rd nt a e s Q
  | .ret, e, s, Q => Q (.jmp .ret) e s
  | .bad, _, _, _ => False

theorem wpC_ok (hm : P.follows .mixedOrders = true) {rd : Bool} {nt : Nat} : ∀ {c : LCode} {e : Env} {s : St} {Q : Out → Env → St → Prop}, wpC P G rd nt c e s Q → CodeOk P G rd nt c e s Q := by
  intro c
  induction c with
  | skip => intro e s Q h; exact ok_skip h
  | region l => intro e s Q h; exact ok_region hm (wpOps_ok h)
  | seq a b iha ihb =>
    intro e s Q h
    refine ok_seq (CodeOk.mono (iha h) fun o e s hh => ?_)
    cases o with
    | normal => exact ihb hh
    | jmp j => exact hh
  | cond x a b iha ihb =>
    intro e s Q h
    simp only [wpC] at h
    split at h
    · rename_i t ht
      refine ok_cond ht ?_
      cases t with
      | true => exact iha h
      | false => exact ihb h
    · exact h.elim
  | block id a iha => intro e s Q h; exact ok_block (iha h)
  | loop a => intro e s Q h; exact h
  | rangeFunc y ps as bo => intro e s Q h; exact h
  | exit id => intro e s Q h; exact ok_exit h
  | scope a iha => intro e s Q h; exact ok_scope (iha h)
  | ret => intro e s Q h; exact ok_ret h
  | bad => intro e s Q h; exact h.elim

/-! The steps, one rule each. -/
theorem pw_region (hm : P.follows .mixedOrders = true) {rd : Bool} {nt : Nat} {l : List LOper} {e : Env} {s : St} {Q : Out → Env → St → Prop} (h : wpOps P G (fun e s => Q .normal e s) l e s) : CodeOk P G rd nt (.region l) e s Q := ok_region hm (wpOps_ok h)
theorem pw_nil {K : Env → St → Prop} {e : Env} {s : St} (h : K e s) : wpOps P G K [] e s := h

theorem stepW_run {fl : Bool} {o : LOp} {e : Env} {s s' : St} {v : LV} {R : LV → St → Prop} (hr : o.run e s = some (v, s')) (hs : strictOk fl o e = true) (h : R v s') : stepW P G fl o e s R := by
  cases o
  case call f as => cases hr
  case mnext x => cases hr
  case bin op x y =>
    simp only [LOp.run, Option.bind_eq_bind, Option.bind_eq_some_iff, Option.some.injEq, Prod.mk.injEq] at hr
    obtain ⟨a, ha, rfl, rfl⟩ := hr
    simp only [stepW, ha]
    split
    · rename_i b0 heq
      cases heq
      intro b hb; subst hb; exact h
    · rename_i heq; cases heq; exact h
    · rename_i heq; cases heq
  case eq neg t x y =>
    simp only [LOp.run, Option.bind_eq_bind, Option.bind_eq_some_iff, Option.some.injEq, Prod.mk.injEq] at hr
    obtain ⟨a, ha, rfl, rfl⟩ := hr
    simp only [stepW, ha]
    intro b hb; subst hb; exact h
  all_goals (simp only [stepW, hr]; exact ⟨hs, h⟩)

theorem pw_run0 {d : Nat} {op : LOp} {l : List LOper} {K : Env → St → Prop} {e : Env} {s s' : St} {v : LV} (hr : op.run e s = some (v, s')) (h : wpOps P G K l (Tr.set e d v) s') : wpOps P G K (⟨some d, op, none, [], false⟩ :: l) e s := by
  simp only [wpOps, wantedG]
  exact stepW_run hr (by unfold strictOk; split <;> simp) ⟨trivial, h⟩
theorem pw_runN {op : LOp} {l : List LOper} {K : Env → St → Prop} {e : Env} {s s' : St} {v : LV} (hr : op.run e s = some (v, s')) (h : wpOps P G K l e s') : wpOps P G K (⟨none, op, none, [], false⟩ :: l) e s := by
  simp only [wpOps, wantedG]
  exact stepW_run hr (by unfold strictOk; split <;> simp) ⟨trivial, h⟩
theorem pw_runF {o : LOper} {l : List LOper} {K : Env → St → Prop} {e : Env} {s s' : St} {v : LV} (hg : wantedG o.guard e = some true) (hr : o.op.run e s = some (v, s')) (hs : strictOk o.fl o.op e = true) (hc : Chks o.chk (e.put o.dst v) s') (h : wpOps P G K l (e.put o.dst v) s') : wpOps P G K (o :: l) e s := by
  simp only [wpOps, hg]
  exact stepW_run hr hs ⟨hc, h⟩
theorem pw_skipF {o : LOper} {l : List LOper} {K : Env → St → Prop} {e : Env} {s : St} (hg : wantedG o.guard e = some false) (h : wpOps P G K l (e.put o.dst (.tup [])) s) : wpOps P G K (o :: l) e s := by
  simp only [wpOps, hg]
  exact h
theorem pw_binF {d : Nat} {op : BinOp} {x y : Opd} {g : Option (Nat × Bool)} {fl : Bool} {l : List LOper} {K : Env → St → Prop} {e : Env} {s : St} {b0 : Bool} (hg : wantedG g e = some true) (hr : binLV op (x.ev e) (y.ev e) = some (.bool b0))
    (h : ∀ b, b0 = b → wpOps P G K l (Tr.set e d (.bool b)) s) : wpOps P G K (⟨some d, .bin op x y, g, [], fl⟩ :: l) e s := by
  simp only [wpOps, hg, stepW, hr]
  intro b hb
  exact ⟨trivial, h b hb⟩
theorem pw_eqF {d : Nat} {neg : Bool} {t : EqTy} {x y : Opd} {g : Option (Nat × Bool)} {fl : Bool} {l : List LOper} {K : Env → St → Prop} {e : Env} {s : St} {b0 : Bool} (hg : wantedG g e = some true) (hr : eqLV t (x.ev e) (y.ev e) = some b0)
    (h : ∀ b, (if neg then !b0 else b0) = b → wpOps P G K l (Tr.set e d (.bool b)) s) : wpOps P G K (⟨some d, .eq neg t x y, g, [], fl⟩ :: l) e s := by
  simp only [wpOps, hg, stepW, hr]
  intro b hb
  exact ⟨trivial, h b hb⟩
theorem pw_callF {o : LOper} {f : Opd} {as : List Opd} {l : List LOper} {K : Env → St → Prop} {e : Env} {s : St} (ho : o.op = .call f as) (hg : wantedG o.guard e = some true)
    (h : CallOk P G (f.ev e) (as.map (·.ev e)) s (fun v s' => Chks o.chk (e.put o.dst v) s' ∧ wpOps P G K l (e.put o.dst v) s')) : wpOps P G K (o :: l) e s := by
  simp only [wpOps, hg, ho, stepW]
  exact h
/-- A call of known answer. -/
theorem pw_pure (hG : ∀ x ∈ G, LV.closed.closedAll x.2 = true) {dst : Option Nat} {g : Option (Nat × Bool)} {chk : List (Nat × Option (Nat × Bool) × LOp)} {fl : Bool} {as : List Opd} {vs : List LV} {fv r : LV} {l : List LOper} {K : Env → St → Prop} {e : Env} {s : St} (hp : PureOk P G fv vs r) (hg : wantedG g e = some true) (ha : as.map (·.ev e) = vs)
    (hc : Chks chk (e.put dst r) s) (h : wpOps P G K l (e.put dst r) s) : wpOps P G K (⟨dst, .call (.c fv) as, g, chk, fl⟩ :: l) e s := by
  refine pw_callF rfl hg ?_
  rw [ha]
  exact pure_call hG hp ⟨hc, h⟩

/-- A call of which something is known. -/
theorem pw_pureEx (hG : ∀ x ∈ G, LV.closed.closedAll x.2 = true) {dst : Option Nat} {g : Option (Nat × Bool)} {chk : List (Nat × Option (Nat × Bool) × LOp)} {fl : Bool} {as : List Opd} {vs : List LV} {fv : LV} {R : LV → Prop} {l : List LOper} {K : Env → St → Prop} {e : Env} {s : St} (hp : PureEx P G fv vs R) (hg : wantedG g e = some true) (ha : as.map (·.ev e) = vs)
    (h : ∀ r, R r → r.closed = true → Chks chk (e.put dst r) s ∧ wpOps P G K l (e.put dst r) s) : wpOps P G K (⟨dst, .call (.c fv) as, g, chk, fl⟩ :: l) e s := by
  refine pw_callF rfl hg ?_
  rw [ha]
  exact pure_callEx hG hp h
/-- .. of a truth value. -/
theorem pw_pureB (hG : ∀ x ∈ G, LV.closed.closedAll x.2 = true) {dst : Option Nat} {g : Option (Nat × Bool)} {chk : List (Nat × Option (Nat × Bool) × LOp)} {fl : Bool} {as : List Opd} {vs : List LV} {fv : LV} {b0 : Bool} {l : List LOper} {K : Env → St → Prop} {e : Env} {s : St} (hp : PureOk P G fv vs (.bool b0)) (hg : wantedG g e = some true) (ha : as.map (·.ev e) = vs)
    (h : ∀ b, b0 = b → Chks chk (e.put dst (.bool b)) s ∧ wpOps P G K l (e.put dst (.bool b)) s) : wpOps P G K (⟨dst, .call (.c fv) as, g, chk, fl⟩ :: l) e s := by
  refine pw_callF rfl hg ?_
  rw [ha]
  exact pure_call hG hp (h b0 rfl)

theorem pw_seq {rd : Bool} {nt : Nat} {a b : LCode} {e : Env} {s : St} {Q : Out → Env → St → Prop} (h : CodeOk P G rd nt a e s (Thn (fun e s => CodeOk P G rd nt b e s Q) Q)) : CodeOk P G rd nt (.seq a b) e s Q := ok_seq h
theorem pw_cond {rd : Bool} {nt : Nat} {x : Opd} {a b : LCode} {e : Env} {s : St} {Q : Out → Env → St → Prop} {t : Bool} (hx : x.ev e = .bool t) (h : CodeOk P G rd nt (if t then a else b) e s Q) : CodeOk P G rd nt (.cond x a b) e s Q := ok_cond hx h
theorem pw_condT {rd : Bool} {nt : Nat} {x : Opd} {a b : LCode} {e : Env} {s : St} {Q : Out → Env → St → Prop} (hx : x.ev e = .bool true) (h : CodeOk P G rd nt a e s Q) : CodeOk P G rd nt (.cond x a b) e s Q := ok_cond hx h
theorem pw_condF {rd : Bool} {nt : Nat} {x : Opd} {a b : LCode} {e : Env} {s : St} {Q : Out → Env → St → Prop} (hx : x.ev e = .bool false) (h : CodeOk P G rd nt b e s Q) : CodeOk P G rd nt (.cond x a b) e s Q := ok_cond hx h
theorem thn_normal {R : Env → St → Prop} {Q : Out → Env → St → Prop} {e : Env} {s : St} (h : R e s) : Thn R Q .normal e s := h
theorem thn_jmp {R : Env → St → Prop} {Q : Out → Env → St → Prop} {j : Jmp} {e : Env} {s : St} (h : Q (.jmp j) e s) : Thn R Q (.jmp j) e s := h
theorem blkd_normal {id : Nat} {Q : Out → Env → St → Prop} {e : Env} {s : St} (h : Q .normal e s) : Blkd id Q .normal e s := h
theorem blkd_ret {id : Nat} {Q : Out → Env → St → Prop} {e : Env} {s : St} (h : Q (.jmp .ret) e s) : Blkd id Q (.jmp .ret) e s := h
theorem blkd_exit {id : Nat} {Q : Out → Env → St → Prop} {e : Env} {s : St} (h : Q .normal e s) : Blkd id Q (.jmp (.exit id)) e s := by simp only [Blkd, if_true]; exact h
theorem blkd_other {id id' : Nat} {Q : Out → Env → St → Prop} {e : Env} {s : St} (hne : id' ≠ id) (h : Q (.jmp (.exit id')) e s) : Blkd id Q (.jmp (.exit id')) e s := by simp only [Blkd, hne, if_false]; exact h
theorem pw_loopI {rd : Bool} {nt : Nat} {x : LCode} {Q : Out → Env → St → Prop} (I : Nat → Env → St → Prop) (n : Nat) {e : Env} {s : St} (h : I n e s)
    (hI : ∀ n e s, I n e s → CodeOk P G rd nt x e s (Thn (fun e s => ∃ m, m < n ∧ I m e s) Q)) : CodeOk P G rd nt (.loop x) e s Q := ok_loop_inv I hI n h

/-- A loop: an invariant with a number that falls. -/
theorem pw_loop (hm : P.follows .mixedOrders = true) {rd : Bool} {nt : Nat} {x : LCode} {Q : Out → Env → St → Prop} (I : Nat → Env → St → Prop) (n : Nat) {e : Env} {s : St} (h : I n e s)
    (hI : ∀ n e s, I n e s → wpC P G rd nt x e s (Thn (fun e s => ∃ m, m < n ∧ I m e s) Q)) : CodeOk P G rd nt (.loop x) e s Q :=
  ok_loop_inv I (fun n e s h => wpC_ok hm (hI n e s h)) n h

/-- A slice of plain content: its cells and its length. -/
inductive Sl : LV → List LV → Nat → Prop
  | nil : Sl .nils [] 0
  | zs : Sl .zs [] 0
  | simm (cs : List LV) (n : Nat) : Sl (.simm cs n) cs n
theorem Sl.len {v : LV} {cs : List LV} {n : Nat} (h : Sl v cs n) : slLen v = some n := by cases h <;> rfl
theorem Sl.closed {v : LV} {cs : List LV} {n : Nat} (h : Sl v cs n) (hc : LV.closed.closedAll cs = true) : v.closed = true := by cases h <;> simp [LV.closed, hc]
theorem Sl.pos {v : LV} {cs : List LV} {n : Nat} (h : Sl v cs n) (hn : 0 < n) : v = .simm cs n := by cases h <;> first | rfl | omega
theorem Sl.cell {v : LV} {cs : List LV} {n : Nat} (h : Sl v cs n) : isCell v = true := by cases h <;> rfl
theorem frz_closed {n : Nat} {v : LV} {s : St} (h : v.closed = true) : frz (n + 1) v s = some (v, s) := by unfold frz; simp [h]
theorem frzD_closed {v : LV} {s : St} (h : v.closed = true) : frz frzDepth v s = some (v, s) := frz_closed h

/-- A function on known kinds of arguments, from its body. -/
theorem pure_fn {k : Nat} {fn : Func} {refs : List Nat} {lf : LFunc} {args : List LV} {r : LV} (hm : P.follows .mixedOrders = true) (hf : P.funcs[k]? = some fn) (hn : (fn.name == "runtime.NumGoroutine") = false) (hc : compFunc P G refs fn = some lf)
    (hlen : args.length ≤ lf.ntmps) (ha : LV.closed.closedAll args = true) (hr : r.closed = true)
    (h : CodeOk P G false lf.ntmps lf.body (envOf args) St.empty (fun o e s => (o = .normal ∨ o = .jmp .ret) ∧ ∃ v, resVal lf.results e s = some v ∧ ∃ s', frz frzDepth v s = some (r, s'))) : PureOk P G (.fn (.func k) [] []) args r :=
  ⟨rfl, ha, hr, call_fn (first := []) (caps := []) hf hn hc (by simpa using hlen) (by simpa using h)⟩
theorem pure_tmp {k : Nat} {fn : Func} {refs : List Nat} {lf : LFunc} {args : List LV} {r : LV} {t : Nat} (hm : P.follows .mixedOrders = true) (hf : P.funcs[k]? = some fn) (hn : (fn.name == "runtime.NumGoroutine") = false) (hc : compFunc P G refs fn = some lf)
    (hlen : args.length ≤ lf.ntmps) (ha : LV.closed.closedAll args = true) (hr : r.closed = true) (ht : lf.results = [.tmp t])
    (h : CodeOk P G false lf.ntmps lf.body (envOf args) St.empty (fun o e s => (o = .normal ∨ o = .jmp .ret) ∧ e.at t = r)) : PureOk P G (.fn (.func k) [] []) args r :=
  pure_fn hm hf hn hc hlen ha hr (CodeOk.mono h fun o e s hh => ⟨hh.1, r, by rw [ht]; simp [resVal, resOne, hh.2], s, frzD_closed hr⟩)
theorem pureEx_tmp {k : Nat} {fn : Func} {refs : List Nat} {lf : LFunc} {args : List LV} {R : LV → Prop} {t : Nat} (hm : P.follows .mixedOrders = true) (hf : P.funcs[k]? = some fn) (hn : (fn.name == "runtime.NumGoroutine") = false) (hc : compFunc P G refs fn = some lf)
    (hlen : args.length ≤ lf.ntmps) (ha : LV.closed.closedAll args = true) (ht : lf.results = [.tmp t])
    (h : CodeOk P G false lf.ntmps lf.body (envOf args) St.empty (fun o e s => (o = .normal ∨ o = .jmp .ret) ∧ ∃ r s', frz frzDepth (e.at t) s = some (r, s') ∧ r.closed = true ∧ R r)) : PureEx P G (.fn (.func k) [] []) args R :=
  ⟨rfl, ha, call_fn (first := []) (caps := []) hf hn hc (by simpa using hlen) (by
    have h' := CodeOk.mono h (Q' := fun o e s => (o = .normal ∨ o = .jmp .ret) ∧ ∃ v, resVal lf.results e s = some v ∧ ∃ r s', frz frzDepth v s = some (r, s') ∧ r.closed = true ∧ R r) (fun o e s hh => ⟨hh.1, e.at t, by rw [ht]; simp [resVal, resOne], hh.2⟩)
    simpa using h')⟩
end
end Go.Pv
