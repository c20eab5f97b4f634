/- Operations in a row, and calls. -/
import Derived.Test.YtmfpcofncfhklaaPvSem
set_option linter.unusedSimpArgs false
namespace Go.Pv
open Go Go.RowKit

/-- A function value called, in the machine, from a frame: one answer, from one world to another. -/
def Goes (P : Program) (vf : Value) (vargs : Array Value) (w : World) (c : Frame) (cs : List Frame) (v : Value) (w' : World) : Prop :=
  ∃ d nx w1, (∀ w, (Deferred.ofValue vf vargs).run P w = .ok d w) ∧ (invoke d.target d.args).run P w = .ok nx w1 ∧
    match nx with
    | .enter f as => Steps P (lone (Frame.enter P f as .normal) (c :: cs) w1) (lone (c.finish v) cs w')
    | .round l f tmps as bo => Steps P (lone (Frame.round l f tmps as bo .normal) (c :: cs) w1) (lone (c.finish v) cs w')
    | .value v' => v' = v ∧ w1 = w'
    | _ => False

/-- A call, in plain values. -/
def CallOk (P : Program) (G : Globs) (f : LV) (args : List LV) (s : St) (Q : LV → St → Prop) : Prop :=
  ∀ (w0 : Bs) (μ : Mu) (ι : Io) (δ : Nat → Prop) (w : World) (vf : Value) (vargs : Array Value) (c : Frame) (cs : List Frame), Now P G w0 μ ι δ s w → Rv μ ι w f vf → vargs.size = args.length → (∀ i, i < args.length → Rv μ ι w (args.getD i .top) (vargs.getD i undef)) →
    ∃ lv s' μ' ι' w' v, Q lv s' ∧ Goes P vf vargs w c cs v w' ∧ Inv (cmpR P G) w0 μ' ι' δ s' w' ∧ Ext μ ι δ w μ' ι' δ w' ∧ Kept μ s μ' s' ∧ Rv μ' ι' w' lv v

theorem CallOk.mono {P : Program} {G : Globs} {f : LV} {args : List LV} {s : St} {Q Q' : LV → St → Prop} (h : CallOk P G f args s Q) (hq : ∀ v s, Q v s → Q' v s) : CallOk P G f args s Q' := by
  intro w0 μ ι δ w vf vargs c cs hN hf hl ha
  obtain ⟨lv, s', μ', ι', w', v, q, r⟩ := h w0 μ ι δ w vf vargs c cs hN hf hl ha
  exact ⟨lv, s', μ', ι', w', v, hq _ _ q, r⟩

def strictOk (fl : Bool) (o : LOp) (e : Env) : Bool :=
  match o with
  | .box true x => !fl || (x.ev e).closed
  | _ => true

/-- A step of a walk over a map: whatever entry is drawn. -/
def NextOk (v : LV) (s : St) (R : LV → St → Prop) : Prop :=
  match v with
  | .pref id 0 =>
    match s.get id with
    | some (.iter none _ _ _) => R (.tup [.bool false]) s
    | some (.iter (some m) n0 seen last) =>
      match s.get m with
      | some (.map es) => (seen = [] ∨ 0 < last) ∧
          (∀ i, i < es.length → i ∉ seen → R (.tup [.bool true, (es.getD i default).1, (es.getD i default).2]) (s.put id (.iter (some m) n0 (seen ++ [i]) es.length))) ∧
          ((∀ i, i < n0 → i < es.length → i ∈ seen) → R (.tup [.bool false]) s)
      | _ => False
    | _ => False
  | _ => False

theorem NextOk.mono {v : LV} {s : St} {R R' : LV → St → Prop} (h : NextOk v s R) (hr : ∀ v s, R v s → R' v s) : NextOk v s R' := by
  unfold NextOk at *
  split at h
  · split at h
    · exact hr _ _ h
    · split at h
      · exact ⟨h.1, fun i hi hn => hr _ _ (h.2.1 i hi hn), fun ha => hr _ _ (h.2.2 ha)⟩
      · exact h.elim
    · exact h.elim
  · exact h.elim

def OpGo (P : Program) (G : Globs) (fl : Bool) (o : LOp) (e : Env) (s : St) (R : LV → St → Prop) : Prop :=
  match o with
  | .call f as => CallOk P G (f.ev e) (as.map (·.ev e)) s R
  | .mnext x => NextOk (x.ev e) s R
  | o => match o.run e s with
    | some (v, s') => strictOk fl o e = true ∧ R v s'
    | none => False

/-- The looks whose place is drawn have yielded the same. -/
def Chks : List (Nat × Option (Nat × Bool) × LOp) → Env → St → Prop
  | [], _, _ => True
  | (t, g, o) :: r, e, s => (wantedG g e = some false ∨ (wantedG g e = some true ∧ o.run e s = some (e.at t, s))) ∧ Chks r e s

def Chain (P : Program) (G : Globs) : List LOper → Env → St → (Env → St → Prop) → Prop
  | [], e, s, K => K e s
  | o :: l, e, s, K =>
    match wantedG o.guard e with
    | none => False
    | some false => Chain P G l (e.put o.dst (.tup [])) s K
    | some true => OpGo P G o.fl o.op e s (fun v s' => Chks o.chk (e.put o.dst v) s' ∧ Chain P G l (e.put o.dst v) s' K)

section
variable {P : Program} {G : Globs} {w0 : Bs} {μ μ' : Mu} {ι ι' : Io} {δ : Nat → Prop} {s s' : St} {w w' : World} {c : Ctx} {e : Env} {a : Act} {b : Frame} {k : List Item} {cs : List Frame} {ops : Array Oper} {o : Oper} {i : Nat} {rest : List Nat} {lo : LOper}

def isCallL : LOp → Bool
  | .call .. | .mnext _ => true
  | _ => false

theorem opGo_eq {fl : Bool} {lo : LOp} {R : LV → St → Prop} (h : isCallL lo = false) : OpGo P G fl lo e s R = (match lo.run e s with | some (v, s') => strictOk fl lo e = true ∧ R v s' | none => False) := by
  cases lo <;> first | rfl | cases h

theorem isCallL_inv {lo : LOp} (h : isCallL lo = true) : (∃ f as, lo = .call f as) ∨ ∃ x, lo = .mnext x := by
  cases lo <;> first | exact .inl ⟨_, _, rfl⟩ | exact .inr ⟨_, rfl⟩ | cases h

/-- An operation whose run is at hand. -/
theorem opGo_inv {fl : Bool} {lo : LOp} {R : LV → St → Prop} (h : OpGo P G fl lo e s R) (hn : isCallL lo = false) : ∃ v s', lo.run e s = some (v, s') ∧ strictOk fl lo e = true ∧ R v s' := by
  rw [opGo_eq hn] at h
  cases hr : lo.run e s with
  | none => rw [hr] at h; exact h.elim
  | some p => rw [hr] at h; exact ⟨p.1, p.2, rfl, h.1, h.2⟩

theorem OpGo.mono {fl : Bool} {lo : LOp} {R R' : LV → St → Prop} (h : OpGo P G fl lo e s R) (hr : ∀ v s, R v s → R' v s) : OpGo P G fl lo e s R' := by
  cases hc : isCallL lo with
  | true =>
    rcases isCallL_inv hc with ⟨f, as, rfl⟩ | ⟨x, rfl⟩
    · exact CallOk.mono h hr
    · exact NextOk.mono h hr
  | false =>
    obtain ⟨v, s', h1, h2, h3⟩ := opGo_inv h hc
    rw [opGo_eq hc, h1]
    exact ⟨h2, hr _ _ h3⟩

theorem Chain.mono {K K' : Env → St → Prop} (hk : ∀ e s, K e s → K' e s) : ∀ {l : List LOper} {e : Env} {s : St}, Chain P G l e s K → Chain P G l e s K' := by
  intro l
  induction l with
  | nil => intro e s h; exact hk _ _ h
  | cons o l ih =>
    intro e s h
    simp only [Chain] at h ⊢
    split at h
    · exact h.elim
    · exact ih h
    · exact h.mono fun v s hh => ⟨hh.1, ih hh.2⟩

theorem compOper_inv (h : compOper c ops o = some lo) : compOp c o = some lo.op ∧ lo.dst = o.dst ∧ (∀ d, o.dst = some d → d < c.nt) ∧
    (match o.guard with | none => lo.guard = none | some (j, want) => ∃ d, (ops[j]?).bind (·.dst) = some d ∧ lo.guard = some (d, want)) := by
  unfold compOper at h
  obtain ⟨op, hop, h⟩ := bind_some h
  refine ⟨?_, ?_⟩
  · rw [hop]; congr 1
    cases hd : o.dst <;> simp only [hd] at h
    · cases hg : o.guard <;> simp only [hg] at h
      · simp at h; exact h ▸ rfl
      · obtain ⟨d, hd', h⟩ := bind_some h
        cases h; rfl
    · split at h
      · cases hg : o.guard <;> simp only [hg] at h
        · simp at h; exact h ▸ rfl
        · obtain ⟨d, hd', h⟩ := bind_some h
          cases h; rfl
      · simp at h
  · cases hd : o.dst <;> simp only [hd] at h
    · cases hg : o.guard <;> simp only [hg] at h
      · simp at h; subst h; exact ⟨rfl, fun d hd' => by (cases hd'), rfl⟩
      · obtain ⟨d, hd', h⟩ := bind_some h
        cases h; exact ⟨rfl, fun d hd' => by (cases hd'), d, hd', rfl⟩
    · split at h
      · rename_i hlt
        cases hg : o.guard <;> simp only [hg] at h
        · simp at h; subst h; exact ⟨rfl, fun d hd' => by (cases hd'; exact hlt), rfl⟩
        · obtain ⟨d, hd', h⟩ := bind_some h
          cases h; exact ⟨rfl, fun d hd' => by (cases hd'; exact hlt), d, hd', rfl⟩
      · simp at h

/-- Whether an operation is asked for. -/
theorem wanted_rel {t : Bool} (hlo : compOper c ops o = some lo) (h : wantedG lo.guard e = some t) (hr : ∀ d want, lo.guard = some (d, want) → Rv μ ι w (e.at d) (a.tmps.getD d undef)) :
    Region.wanted o (yielded ops a.tmps) = t := by
  obtain ⟨_, _, _, hg⟩ := compOper_inv hlo
  unfold Region.wanted
  cases ho : o.guard with
  | none =>
    rw [ho] at hg
    have hg' : lo.guard = none := hg
    rw [hg'] at h
    cases h; rfl
  | some p =>
    obtain ⟨j, want⟩ := p
    rw [ho] at hg
    obtain ⟨d, hd, hg⟩ := hg
    have hv := hr d want hg
    rw [hg] at h
    simp only [wantedG] at h
    simp only [yielded, hd, Option.bind_some]
    cases he : e.at d <;> rw [he] at h hv <;> simp only [reduceCtorEq] at h
    · rename_i bb
      have hb : a.tmps[d]? = some (.bool bb) := by
        generalize hx : a.tmps.getD d undef = x at hv
        cases hv
        by_cases hlt : d < a.tmps.size
        · simpa [Array.getD_eq_getD_getElem?, hlt] using hx
        · simp [Array.getD_eq_getD_getElem?, hlt, undef] at hx
      rw [hb]
      simpa using h
    · have hb : ∀ bb, a.tmps[d]? ≠ some (.bool bb) := by
        intro bb hb
        have : a.tmps.getD d undef = .bool bb := by simp [Array.getD_eq_getD_getElem?, hb]
        rw [this] at hv
        cases hv
      have ht : t = false := by simpa using h.symm
      subst ht
      split
      · rename_i bb hb'; exact absurd hb' (hb bb)
      · simp

theorem ne_defer {lo : LOp} (h : compOp c o = some lo) : ∀ x, o.op ≠ .defer x := by
  intro x hx
  simp [compOp, hx] at h

theorem stepR_value {x : Value} (ho : ops[i]? = some o) (hw : Region.wanted o (yielded ops a.tmps) = true) (hd : ∀ x, o.op ≠ .defer x)
    (hr : (execOp a.eval o).run P w = .ok (.value x) w' ∨ ((execOp a.eval o).run P w = .ok .skip w' ∧ x = undef)) :
    step P (lone (b.atR a (.inRegion ops (i :: rest) :: k)) cs w) = .next (lone (b.atR (a.put o.dst x) (.inRegion ops rest :: k)) cs w') := by
  have hg := stepGR_op (P := P) (b := b) (k := k) (cs := cs) (w := w) (rest := rest) ho hw
  rw [Oper.semAt_eq _ _ _ hd] at hg
  have hf : ∀ x, (b.atR a (.inRegion ops (i :: rest) :: k)).finish x = b.atR (a.put o.dst x) (.inRegion ops rest :: k) := fun x => by
    rw [Frame.finish_atR, ho]; rfl
  refine step_lone_go ?_
  rw [hg]
  rcases hr with hr | ⟨hr, rfl⟩
  · simp [stepG.apply, Sem.runT_eq, hr, hf]
  · simp [stepG.apply, Sem.runT_eq, hr, hf]

theorem stepR_goes {v : Value} {f : Operand} {as : Array Operand} {ts : Array TypeId} (ho : ops[i]? = some o) (hw : Region.wanted o (yielded ops a.tmps) = true)
    (hop : o.op = .call { callee := .value f, args := as, argTypes := ts }) (hg : Goes P (a.eval f) (as.map a.eval) w (b.atR a (.inRegion ops (i :: rest) :: k)) cs v w') :
    Steps P (lone (b.atR a (.inRegion ops (i :: rest) :: k)) cs w) (lone (b.atR (a.put o.dst v) (.inRegion ops rest :: k)) cs w') := by
  obtain ⟨d, nx, w1, h1, h2, h3⟩ := hg
  have hrun : (execOp a.eval o).run P w = .ok nx w1 := by
    simp only [execOp, hop, resolve, Sem.run_bind, h1, Result.andThen_ok, h2]
  have hd : ∀ x, o.op ≠ .defer x := by intro x; rw [hop]; simp
  have hgs := stepGR_op (P := P) (b := b) (k := k) (cs := cs) (w := w) (rest := rest) ho hw
  rw [Oper.semAt_eq _ _ _ hd] at hgs
  have hf : ∀ x, (b.atR a (.inRegion ops (i :: rest) :: k)).finish x = b.atR (a.put o.dst x) (.inRegion ops rest :: k) := fun x => by
    rw [Frame.finish_atR, ho]; rfl
  cases nx <;> try (exact h3.elim)
  case value v' =>
    obtain ⟨rfl, rfl⟩ := h3
    exact .one (stepR_value ho hw hd (.inl hrun))
  case enter f' as' =>
    refine .head (m₁ := lone (Frame.enter P f' as' .normal) (b.atR a (.inRegion ops (i :: rest) :: k) :: cs) w1) ?_ ?_
    · refine step_lone_go ?_
      rw [hgs]
      simp [stepG.apply, Sem.runT_eq, hrun, Frame.atR]
    · have := h3
      dsimp only at this
      rwa [hf] at this
  case round l f' tmps as' bo =>
    refine .head (m₁ := lone (Frame.round l f' tmps as' bo .normal) (b.atR a (.inRegion ops (i :: rest) :: k) :: cs) w1) ?_ ?_
    · refine step_lone_go ?_
      rw [hgs]
      simp [stepG.apply, Sem.runT_eq, hrun, Frame.atR]
    · have := h3
      dsimp only at this
      rwa [hf] at this

theorem opds_get {l : List Operand} {r : List Opd} (h : opds c l = some r) : r.length = l.length ∧ ∀ i (h : i < l.length), ∃ y, r[i]? = some y ∧ opd c l[i] = some y := mapM_get h

theorem compOp_call {lf : Opd} {las : List Opd} (hc : compOp c o = some (.call lf las)) : ∃ f as ts, o.op = .call { callee := .value f, args := as, argTypes := ts } ∧ opd c f = some lf ∧ opds c as.toList = some las := by
  cases ho : o.op
  case call cl =>
    obtain ⟨cal, as, ts⟩ := cl
    cases cal <;> simp only [compOp, ho, reduceCtorEq] at hc
    case value f =>
      obtain ⟨y, hy, hc⟩ := bind_some hc
      obtain ⟨ys, hys, hc⟩ := bind_some hc
      cases hc
      exact ⟨_, _, _, rfl, hy, hys⟩
    case builtin bb =>
      exfalso
      unfold compBuiltin compLen compAppend compCopy compCap at hc
      repeat' (first | (cases hc; done) | (obtain ⟨_, _, hc⟩ := bind_some hc) | (split at hc))
  all_goals exfalso
  all_goals simp only [compOp, ho, reduceCtorEq, Option.map_eq_some_iff, and_false, exists_false] at hc
  all_goals repeat' (first | (cases hc; done) | contradiction | (simp only [Option.map_eq_some_iff, reduceCtorEq, and_false, exists_false] at hc; done) | (obtain ⟨_, _, hc⟩ := bind_some hc) | (split at hc))

theorem compOp_next {y : Opd} (hc : compOp c o = some (.mnext y)) : ∃ x, o.op = .next x false ∧ opd c x = some y := by
  cases ho : o.op
  case next x b =>
    cases b <;> simp only [compOp, ho, reduceCtorEq] at hc
    obtain ⟨z, hz, h⟩ := map_some' hc
    cases h
    exact ⟨x, rfl, hz⟩
  case call cl =>
    exfalso
    obtain ⟨cal, as, ts⟩ := cl
    cases cal <;> simp only [compOp, ho, reduceCtorEq] at hc
    · obtain ⟨_, _, hc⟩ := bind_some hc; obtain ⟨_, _, hc⟩ := bind_some hc; cases hc
    · unfold compBuiltin compLen compAppend compCopy compCap at hc
      repeat' (first | (cases hc; done) | (obtain ⟨_, _, hc⟩ := bind_some hc) | (split at hc))
  all_goals exfalso
  all_goals simp only [compOp, ho, reduceCtorEq, Option.map_eq_some_iff, and_false, exists_false] at hc
  all_goals repeat' (first | (cases hc; done) | contradiction | (simp only [Option.map_eq_some_iff, reduceCtorEq, and_false, exists_false] at hc; done) | (obtain ⟨_, _, hc⟩ := bind_some hc) | (split at hc))

/-- A walk's record turned. -/
theorem Inv.reiter {cmp : Nat → LCode → Code → Prop} (I : Inv cmp w0 μ ι δ s w) {id : Nat} {p : Place} {m : Option Nat} {n0 last last' : Nat} {seen seen' : List Nat} {pb : Option Nat} (hg : s.get id = some (.iter m n0 seen last)) (hp : μ id = some p)
    (hL : w.heap[p.b]? = some (.mapIter pb n0 seen.toArray last)) :
    Inv cmp w0 μ ι δ (s.put id (.iter m n0 seen' last')) { w with heap := w.heap.setIfInBounds p.b (.mapIter pb n0 seen'.toArray last') } ∧ Ext μ ι δ w μ ι δ { w with heap := w.heap.setIfInBounds p.b (.mapIter pb n0 seen'.toArray last') } := by
  obtain ⟨hoff, pb', hL', hpm⟩ := I.blk id _ p hg hp
  rw [hL] at hL'
  cases hL'
  generalize hw' : ({ w with heap := w.heap.setIfInBounds p.b (.mapIter pb n0 seen'.toArray last') } : World) = w'
  have hsz : w'.heap.size = w.heap.size := by rw [← hw']; simp
  have hdom := I.dom id p hp
  have hoth : ∀ k, k ≠ p.b → w'.heap[k]? = w.heap[k]? := fun k hk => by rw [← hw']; exact Array.getElem?_setIfInBounds_ne (Ne.symm hk)
  have hsame : w'.heap[p.b]? = some (.mapIter pb n0 seen'.toArray last') := by rw [← hw']; simp [hdom.2.2]
  have hcellr : ∀ b o v, w.cell? ⟨b, o, none⟩ = some v → b ≠ p.b := by
    rintro b o v hv rfl
    simp [World.cell?, hL] at hv
  have hcell : ∀ b o, ι b o → w'.cell? ⟨b, o, none⟩ = w.cell? ⟨b, o, none⟩ := fun b o hi => by
    obtain ⟨v, hv⟩ := I.io b o hi
    exact cell_of_heap (hoth b (hcellr b o v hv))
  refine ⟨⟨⟨by rw [← hw']; exact I.below.os, by rw [← hw']; exact I.below.tape, by rw [← hw']; exact I.below.output, by rw [hsz]; exact I.below.size, fun k hk => by rw [hoth k (by have := hdom.2.1; omega)]; exact I.below.block k hk⟩,
    fun id p hp => by rw [hsz]; exact I.dom id p hp, fun b o hi => by obtain ⟨v, hv⟩ := I.io b o hi; exact ⟨v, (hcell b o hi).trans hv⟩, fun id' b q hb hq => ?_, ?_, fun x hx => ?_, I.low⟩,
    ⟨fun _ _ h => h, fun _ _ h => h, hcell, by rw [hsz]; exact Nat.le_refl _, fun _ h => h⟩⟩
  · rw [St.get_put] at hb
    split at hb
    · rename_i he; subst he; cases hb
      obtain rfl : p = q := Option.some.inj (hp.symm.trans hq)
      exact ⟨hoff, pb, hsame, hpm⟩
    · rename_i he
      have hrb := I.blk id' b q hb hq
      have hne : q.b ≠ p.b := by
        intro hqe
        cases b with
        | cells m cs => obtain ⟨⟨x, h0⟩, _⟩ := hrb; rw [hqe] at h0; simp [World.shape?, hL] at h0
        | loop st pend env ps as bo => exact he (I.sep id' id _ _ q p hb hg rfl rfl hq hp hqe)
        | map es => exact he (I.sep id' id _ _ q p hb hg rfl rfl hq hp hqe)
        | iter m n0 seen last => exact he (I.sep id' id _ _ q p hb hg rfl rfl hq hp hqe)
      exact hrb.mono (fun _ _ h => h) (fun _ _ h => h) hcell (hoth _ hne) (fun _ _ h => h)
  · intro i j b1 b2 p1 p2 g1 g2 o1 o2 m1 m2 e
    rw [St.get_put] at g1 g2
    have f : ∀ {k : Nat} {b : Blk}, (if k = id then some (Blk.iter m n0 seen' last') else s.get k) = some b → b.owns = true → ∃ b', s.get k = some b' ∧ b'.owns = true := by
      intro k b h ho
      split at h
      · rename_i e; subst e; exact ⟨_, hg, rfl⟩
      · exact ⟨b, h, ho⟩
    obtain ⟨c1, k1, l1⟩ := f g1 o1
    obtain ⟨c2, k2, l2⟩ := f g2 o2
    exact I.sep i j c1 c2 p1 p2 k1 k2 l1 l2 m1 m2 e
  · obtain ⟨a, b⟩ := I.defers x hx
    refine ⟨a, ?_⟩
    rw [hoth x ?_]
    · exact b
    · rintro rfl; rw [hL] at b; cases b

theorem run_mapNext (n : Nat) (w : World) : ∃ t w', (choose (.mapNext n)).run P w = .ok t w' ∧ (w' = w ∨ w' = { w with drawn := w.drawn + 1 }) ∧ (0 < n → t < n) := by
  by_cases h : n ≤ 1
  · exact ⟨0, w, by simp [choose, Sem.run, Question.forced, h], .inl rfl, fun h => h⟩
  · exact ⟨w.tape w.drawn (.mapNext n) % n, _, by simp [choose, Sem.run, Question.forced, h, Question.cut], .inr rfl, fun h => Nat.mod_lt _ h⟩

def nextCand (es : Array MapEntry) (seen : Array Nat) (since : Nat) : Array (Option MapEntry) :=
  let left := es.filter fun e => !seen.contains e.born
  let old := left.filter (·.born < since)
  let new := left.filter (·.born ≥ since)
  (if old.isEmpty then #[none] else #[]) ++ (old ++ new).map some

theorem nextCand_some {es : Array MapEntry} {seen : Array Nat} {since : Nat} {en : MapEntry} (h : some en ∈ nextCand es seen since) : en ∈ es ∧ seen.contains en.born = false := by
  unfold nextCand at h
  simp only [Array.mem_append, Array.mem_map, Option.some.injEq, exists_eq_right] at h
  rcases h with h | h | h
  · split at h <;> simp at h
  · rw [Array.mem_filter, Array.mem_filter] at h; exact ⟨h.1.1, by simpa using h.1.2⟩
  · rw [Array.mem_filter, Array.mem_filter] at h; exact ⟨h.1.1, by simpa using h.1.2⟩

theorem nextCand_none {es : Array MapEntry} {seen : Array Nat} {since : Nat} (h : none ∈ nextCand es seen since) : ∀ en ∈ es, en.born < since → seen.contains en.born = true := by
  intro en he hb
  unfold nextCand at h
  simp only [Array.mem_append, Array.mem_map, reduceCtorEq, and_false, exists_false, or_false] at h
  split at h
  · rename_i hemp
    cases hc : seen.contains en.born with
    | true => rfl
    | false =>
      exfalso
      have hm : en ∈ (es.filter fun e => !seen.contains e.born).filter (·.born < since) := by
        rw [Array.mem_filter, Array.mem_filter]
        exact ⟨⟨he, by rw [hc]; rfl⟩, by simpa using hb⟩
      have h0 := Array.size_pos_of_mem hm
      have h1 : ((es.filter fun e => !seen.contains e.born).filter (·.born < since)).size = 0 := by simpa [Array.isEmpty] using hemp
      omega
  · simp at h

theorem nextCand_pos (es : Array MapEntry) (seen : Array Nat) (since : Nat) : 0 < (nextCand es seen since).size := by
  unfold nextCand
  dsimp only
  generalize (es.filter fun e => !seen.contains e.born).filter (·.born < since) = old
  generalize (es.filter fun e => !seen.contains e.born).filter (·.born ≥ since) = new
  split
  · simp; omega
  · rename_i h
    have : 0 < old.size := by
      rcases Nat.eq_zero_or_pos old.size with h0 | h0
      · exact absurd (by simp [Array.isEmpty, h0]) h
      · exact h0
    simp
    omega

theorem run_next {r m since last clock : Nat} {seen : Array Nat} {es : Array MapEntry} {ty : TypeId} (h1 : w.heap[r]? = some (.mapIter (some m) since seen last)) (h2 : w.heap[m]? = some (.map es clock))
    (hun : (!seen.isEmpty && !es.isEmpty && es.all (·.born ≥ last)) = false) {t : Nat} {w1 : World} (hch : (choose (.mapNext (nextCand es seen since).size)).run P w = .ok t w1) (h3 : w1.heap[r]? = some (.mapIter (some m) since seen last)) {cd : Option MapEntry}
    (hcd : (nextCand es seen since)[t]? = some cd) :
    (Instr.next (.pointer (some ⟨r, 0, none⟩)) false ty).run P w = (match cd with
      | none => .ok (.tuple #[.bool false]) w1
      | some en => .ok (.tuple #[.bool true, en.key, en.val]) { w1 with heap := w1.heap.setIfInBounds r (.mapIter (some m) since (seen.push en.born) clock) }) := by
  unfold nextCand at hch hcd
  dsimp only at hch hcd
  simp only [Instr.next, Sem.run_bind, run_getObj' h1 (by simp), run_getObj' h2 (by simp), Result.andThen_ok, hun, Bool.false_eq_true, if_false, hch, hcd]
  cases cd with
  | none => simp [Sem.run_pure]
  | some en => simp [setObj, Sem.run, h3]

theorem next_step {R : LV → St → Prop} (hP : c.P = P) (hi : ops[i]? = some o) (hlo : compOper c ops o = some lo) (hN : Now P G w0 μ ι δ s w) (hρ : Ho μ ι w c e a o)
    (hw : Region.wanted o (yielded ops a.tmps) = true) {y : Opd} (h : NextOk (y.ev e) s R) (hnx : lo.op = .mnext y) :
    ∃ v s' μ' ι' w' x, R v s' ∧ Steps P (lone (b.atR a (.inRegion ops (i :: rest) :: k)) cs w) (lone (b.atR (a.put o.dst x) (.inRegion ops rest :: k)) cs w') ∧
      Inv (cmpR P G) w0 μ' ι' δ s' w' ∧ Ext μ ι δ w μ' ι' δ w' ∧ Kept μ s μ' s' ∧ Rv μ' ι' w' v x := by
  obtain ⟨hc, _, _, _⟩ := compOper_inv hlo
  rw [hnx] at hc
  obtain ⟨x, hop, hx⟩ := compOp_next hc
  have hv := hρ x y (by simp [hop, Op.operands]) hx
  have hst : ∀ {u w'}, (Instr.next (a.eval x) false o.type).run P w = .ok u w' → step P (lone (b.atR a (.inRegion ops (i :: rest) :: k)) cs w) = .next (lone (b.atR (a.put o.dst u) (.inRegion ops rest :: k)) cs w') := fun hr =>
    stepR_value hi hw (ne_defer hc) (.inl (by simp [execOp, hop, hr]))
  have hfalse : ∀ {μ : Mu} {ι : Io} {w : World}, Rv μ ι w (.tup [.bool false]) (.tuple #[.bool false]) := .tup rfl fun j hj => by
    match j, hj with
    | 0, _ => exact .bool false
  unfold NextOk at h
  split at h
  · rename_i id hye
    rw [hye] at hv
    generalize hav : a.eval x = av at hv hst
    cases hv with
    | pref hp =>
      rename_i p
      split at h
      · rename_i n0 seen last hg
        obtain ⟨hoff, pb, h1, rfl⟩ := hN.inv.blk id _ p hg hp
        refine ⟨_, s, μ, ι, w, .tuple #[.bool false], h, .one (hst ?_), hN.inv, Ext.refl _ _ _ _, Kept.refl _ _, hfalse⟩
        simp [Instr.next, hoff, run_getObj' h1 (by simp)]
      · rename_i m n0 seen last hg
        split at h
        · rename_i es hgm
          obtain ⟨hseen, hsome, hnone⟩ := h
          obtain ⟨hoff, pb, h1, pm, hpm, rfl⟩ := hN.inv.blk id _ p hg hp
          obtain ⟨arr, k1, k2, k3⟩ := hN.inv.blk m _ pm hgm hpm
          have hborn : ∀ j (hj : j < arr.size), arr[j].born = j := fun j hj => by
            have := (k3 j (by omega)).1
            simpa [Array.getD_eq_getD_getElem?, hj] using this
          have hun : (!seen.toArray.isEmpty && !arr.isEmpty && arr.all (·.born ≥ last)) = false := by
            rcases hseen with rfl | hl
            · simp
            · by_cases he : arr.size = 0
              · have : arr.isEmpty = true := by simpa [Array.isEmpty] using he
                simp [this]
              · have h0 : arr.all (·.born ≥ last) = false := by
                  rw [Array.all_eq_false]
                  exact ⟨0, by omega, by have := hborn 0 (by omega); simp [this]; omega⟩
                simp [h0]
          obtain ⟨t, w1, hch, hw1, htl⟩ := run_mapNext (P := P) (nextCand arr seen.toArray n0).size w
          have hs1 : Same w w1 := by rcases hw1 with rfl | rfl; exact Same.refl _; exact Same.drew _
          have hhp : w1.heap = w.heap := by rcases hw1 with rfl | rfl <;> rfl
          have htc := htl (nextCand_pos _ _ _)
          have hI1 := hN.inv.same hs1
          have hx1 := hN.inv.ext_same hs1
          have hobj1 : w1.heap[p.b]? = some (.mapIter (some pm.b) n0 seen.toArray last) := by rw [hhp]; exact h1
          obtain ⟨cd, hcd⟩ : ∃ cd, (nextCand arr seen.toArray n0)[t]? = some cd := ⟨_, Array.getElem?_eq_getElem htc⟩
          have hmem : cd ∈ nextCand arr seen.toArray n0 := Array.mem_of_getElem? hcd
          have hrun := run_next (P := P) (ty := o.type) h1 k1 hun hch hobj1 hcd
          have hst' : ∀ {u w'}, (Instr.next (.pointer (some ⟨p.b, 0, none⟩)) false o.type).run P w = .ok u w' → step P (lone (b.atR a (.inRegion ops (i :: rest) :: k)) cs w) = .next (lone (b.atR (a.put o.dst u) (.inRegion ops rest :: k)) cs w') := fun hr => hst (by rw [hoff]; exact hr)
          cases cd with
          | none =>
            refine ⟨_, s, μ, ι, w1, .tuple #[.bool false], hnone fun j hj hjl => ?_, .one (hst' hrun), hI1, hx1, Kept.refl _ _, hfalse⟩
            have hja : j < arr.size := by omega
            have := nextCand_none hmem arr[j] (Array.getElem_mem hja) (by rw [hborn j hja]; exact hj)
            rw [hborn j hja] at this
            simpa using this
          | some en =>
            obtain ⟨hea, hns⟩ := nextCand_some hmem
            obtain ⟨j, hja, rfl⟩ := Array.getElem_of_mem hea
            have hjl : j < es.length := by omega
            have hjs : j ∉ seen := by rw [hborn j hja] at hns; simpa using hns
            obtain ⟨I2, x2⟩ := hI1.reiter (seen' := seen ++ [j]) (last' := es.length) hg hp hobj1
            have hpush : seen.toArray.push arr[j].born = (seen ++ [j]).toArray := by rw [hborn j hja]; simp
            have hrun' := hrun
            dsimp only at hrun'
            rw [hpush] at hrun'
            refine ⟨_, _, μ, ι, _, _, hsome j hjl hjs, .one (hst' hrun'), I2, hx1.trans x2, Kept.put hp _, .tup rfl fun q hq => ?_⟩
            have hk := k3 j hjl
            have hget : arr.getD j default = arr[j] := by simp [Array.getD_eq_getD_getElem?, hja]
            rw [hget] at hk
            have hxx := hx1.trans x2
            match q, hq with
            | 0, _ => exact .bool true
            | 1, _ => exact hk.2.2.1.ext hxx
            | 2, _ => exact hk.2.2.2.ext hxx
        · exact h.elim
      · exact h.elim
  · exact h.elim

/-- **One operation, wanted.** -/
theorem op_step {R : LV → St → Prop} (hP : c.P = P) (hi : ops[i]? = some o) (hlo : compOper c ops o = some lo) (hN : Now P G w0 μ ι δ s w) (hρ : Ho μ ι w c e a o)
    (hw : Region.wanted o (yielded ops a.tmps) = true) (h : OpGo P G lo.fl lo.op e s R) :
    ∃ v s' μ' ι' w' x, R v s' ∧ Steps P (lone (b.atR a (.inRegion ops (i :: rest) :: k)) cs w) (lone (b.atR (a.put o.dst x) (.inRegion ops rest :: k)) cs w') ∧
      Inv (cmpR P G) w0 μ' ι' δ s' w' ∧ Ext μ ι δ w μ' ι' δ w' ∧ Kept μ s μ' s' ∧ Rv μ' ι' w' v x := by
  obtain ⟨hc, hdst, _, _⟩ := compOper_inv hlo
  cases hcl : isCallL lo.op with
  | true =>
    rcases isCallL_inv hcl with ⟨lf, las, hcall⟩ | ⟨y, hnx⟩
    case inr => exact next_step hP hi hlo hN hρ hw (by rw [hnx] at h; exact h) hnx
    rw [hcall] at h hc
    simp only [OpGo] at h
    have hop := compOp_call hc
    obtain ⟨f, as, ts, hop, hf, has⟩ := hop
    obtain ⟨hl, hg⟩ := opds_get has
    have hvf := hρ f lf (by simp [hop, Op.operands, Call.operands]) hf
    have hva : ∀ j, j < (las.map (·.ev e)).length → Rv μ ι w ((las.map (·.ev e)).getD j .top) ((as.map a.eval).getD j undef) := by
      intro j hj
      have hj' : j < as.toList.length := by rw [← hl]; simpa using hj
      obtain ⟨y, hy, hoy⟩ := hg j hj'
      have := hρ _ y (by simp only [hop, Op.operands, Call.operands]; simp only [Array.toList_append, List.mem_append]; right; exact List.getElem_mem hj') hoy
      have hj2 : j < as.size := by simpa using hj'
      simpa [List.getD_eq_getElem?_getD, hy, Array.getD_eq_getD_getElem?, hj2] using this
    obtain ⟨lv, s', μ', ι', w', v, q, hgo, hI, hx, hk, hr⟩ := h w0 μ ι δ w (a.eval f) (as.map a.eval) (b.atR a (.inRegion ops (i :: rest) :: k)) cs hN hvf (by simp [hl]) hva
    exact ⟨lv, s', μ', ι', w', v, q, stepR_goes hi hw hop hgo, hI, hx, hk, hr⟩
  | false =>
    obtain ⟨v, s', hrun, _, hR⟩ := opGo_inv h hcl
    obtain ⟨x, w', μ', ι', hex, hI, hx, hr, hk⟩ := op_sound hc hρ hN.inv hrun
    rw [hP] at hex
    exact ⟨v, s', μ', ι', w', x, hR, .one (stepR_value hi hw (ne_defer hc) hex), hI, hx, hk, hr⟩

theorem Re.ho (hP : c.P = P) (hG : c.globs = G) (hN : Now P G w0 μ ι δ s w) (hr : ∀ t, .tmp t ∈ o.op.operands.toList → Rv μ ι w (e.at t) (a.tmps.getD t undef)) : Ho μ ι w c e a o := by
  intro x y hx hy
  exact opd_rel hP hG hN hy (fun t ht => hr t (by rw [← ht]; exact hx))

theorem Re.put' (h : Re μ ι w e a.tmps) (hx : Ext μ ι δ w μ' ι' δ w') {d : Option Nat} (hd : ∀ t, d = some t → t < a.tmps.size) {v : LV} {x : Value} (hv : Rv μ' ι' w' v x) : Re μ' ι' w' (e.put d v) (a.put d x).tmps :=
  (h.ext hx).put hd hv

theorem fr_put {nt : Nat} {d : Option Nat} {v : LV} {x : Value} (hf : Fr P G w0 μ ι δ s w nt e a) (hI : Inv (cmpR P G) w0 μ' ι' δ s' w') (hx : Ext μ ι δ w μ' ι' δ w') (hd : ∀ t, d = some t → t < nt) (hv : Rv μ' ι' w' v x) :
    Fr P G w0 μ' ι' δ s' w' nt (e.put d v) (a.put d x) :=
  ⟨hf.now.ext hI hx, (hf.re.ext hx).put (fun t ht => by rw [hf.size]; exact hd t ht) hv, by rw [Act.put_size]; exact hf.size⟩

theorem rv_undef : Rv μ ι w (.tup []) undef := .tup rfl (fun i hi => absurd hi (Nat.not_lt_zero _))

/-- Operations in the order of the text. -/
theorem chain_text {nt : Nat} {refs : List Nat} {K : Env → St → Prop} (ops : Array Oper) : ∀ (l : List LOper) (n : Nat) (e : Env) (s : St) (μ : Mu) (ι : Io) (w : World) (a : Act),
    (∀ j, j < l.length → ∃ o lo, ops[n + j]? = some o ∧ l[j]? = some lo ∧ compOper ⟨P, G, refs, nt⟩ ops o = some lo) → Fr P G w0 μ ι δ s w nt e a → Chain P G l e s K →
    ∃ e' s' μ' ι' w' a', K e' s' ∧ Steps P (lone (b.atR a (.inRegion ops ((List.range l.length).map (n + ·)) :: k)) cs w) (lone (b.atR a' (.inRegion ops [] :: k)) cs w') ∧ Fr P G w0 μ' ι' δ s' w' nt e' a' ∧
      Ext μ ι δ w μ' ι' δ w' ∧ Kept μ s μ' s' ∧ a'.defers = a.defers := by
  intro l
  induction l with
  | nil =>
    intro n e s μ ι w a _ hf h
    exact ⟨e, s, μ, ι, w, a, h, .refl _ _, hf, Ext.refl _ _ _ _, Kept.refl _ _, rfl⟩
  | cons lo l ih =>
    intro n e s μ ι w a hl hf h
    obtain ⟨o, lo', ho, hlo', hc⟩ := hl 0 (Nat.zero_lt_succ _)
    obtain rfl : lo = lo' := by simpa using hlo'
    have hl' : ∀ j, j < l.length → ∃ o lo, ops[n + 1 + j]? = some o ∧ l[j]? = some lo ∧ compOper ⟨P, G, refs, nt⟩ ops o = some lo := fun j hj => by
      obtain ⟨o, lo, h1, h2, h3⟩ := hl (j + 1) (by simpa using hj)
      exact ⟨o, lo, by rw [show n + 1 + j = n + (j + 1) from by omega]; exact h1, by simpa using h2, h3⟩
    have hlist : (List.range (lo :: l).length).map (n + ·) = n :: (List.range l.length).map (n + 1 + ·) := by
      rw [List.length_cons, List.range_succ_eq_map, List.map_cons, List.map_map]
      congr 1
      exact List.map_congr_left fun x _ => by simp only [Function.comp_apply]; omega
    rw [hlist]
    obtain ⟨_, hd1, hd2, _⟩ := compOper_inv hc
    have ho' : ops[n]? = some o := ho
    simp only [Chain] at h
    split at h
    · exact h.elim
    · rename_i hw
      have hw' := wanted_rel hc hw (fun d _ _ => hf.re d)
      have hst : step P (lone (b.atR a (.inRegion ops (n :: (List.range l.length).map (n + 1 + ·)) :: k)) cs w) = .next (lone (b.atR (a.put o.dst undef) (.inRegion ops ((List.range l.length).map (n + 1 + ·)) :: k)) cs w) := by
        have := stepR_op_skip (P := P) (b := b) (a := a) (k := k) (cs := cs) (w := w) (ops := ops) (i := n) (rest := (List.range l.length).map (n + 1 + ·)) (by rw [ho']; simpa using hw')
        rw [ho'] at this
        exact this
      have hf' : Fr P G w0 μ ι δ s w nt (e.put lo.dst (.tup [])) (a.put o.dst undef) := by
        rw [hd1]; exact fr_put hf hf.now.inv (Ext.refl _ _ _ _) hd2 rv_undef
      obtain ⟨e', s', μ', ι', w', a', q, hs, r1, r2, r3, r4⟩ := ih (n + 1) _ s μ ι w _ hl' hf' h
      exact ⟨e', s', μ', ι', w', a', q, .head hst hs, r1, r2, r3, r4.trans (Act.put_defers' _ _ _)⟩
    · rename_i hw
      have hw' := wanted_rel hc hw (fun d _ _ => hf.re d)
      obtain ⟨v, s1, μ1, ι1, w1, x, ⟨_, hch⟩, hst, hI, hx, hk, hr⟩ := op_step (b := b) (k := k) (cs := cs) (rest := (List.range l.length).map (n + 1 + ·)) rfl ho' hc hf.now (Re.ho rfl rfl hf.now (fun t _ => hf.re t)) hw' h
      have hf' : Fr P G w0 μ1 ι1 δ s1 w1 nt (e.put lo.dst v) (a.put o.dst x) := by
        rw [hd1]; exact fr_put hf hI hx hd2 hr
      obtain ⟨e', s', μ', ι', w', a', q, hs, r1, r2, r3, r4⟩ := ih (n + 1) _ s1 μ1 ι1 w1 _ hl' hf' hch
      exact ⟨e', s', μ', ι', w', a', q, Steps.trans hst hs, r1, hx.trans r2, hk.trans r3, r4.trans (Act.put_defers' _ _ _)⟩

end
end Go.Pv
