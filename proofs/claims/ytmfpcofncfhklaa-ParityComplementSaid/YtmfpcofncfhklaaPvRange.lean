/- A range over a function: the statement, and its rounds. -/
import Derived.Test.YtmfpcofncfhklaaPvCall
import Derived.RangeFuncIn
set_option linter.unusedSimpArgs false
set_option linter.unusedVariables false
namespace Go.Pv
open Go Go.RowKit

def putPs : List Nat → List LV → Env → Env
  | p :: ps, v :: vs, e => putPs ps vs (Tr.set e p v)
  | _, _, e => e

section
variable {P : Program} {G : Globs} {w0 : Bs} {μ μ' : Mu} {ι ι' : Io} {δ δ' : Nat → Prop} {s s' : St} {w w' : World} {nt : Nat} {e : Env} {a : Act} {rd : Bool}

theorem Inv.less {cmp : Nat → LCode → Code → Prop} (I : Inv cmp w0 μ ι δ' s w) (h : ∀ r, δ r → δ' r) : Inv cmp w0 μ ι δ s w :=
  ⟨I.below, I.dom, I.io, I.blk, I.sep, fun r hr => I.defers r (h r hr), I.low⟩

/-- A loop's record turned. -/
theorem Inv.reloop {cmp : Nat → LCode → Code → Prop} (I : Inv cmp w0 μ ι δ s w) {id : Nat} {p : Place} {st st' : LoopState} {pend pend' : Option Jmp} {env : Env} {ps : List Nat} {as bo : LCode} {L : Loop}
    (hg : s.get id = some (.loop st pend env ps as bo)) (hp : μ id = some p) (hL : w.heap[p.b]? = some (.loop L)) :
    Inv cmp w0 μ ι δ (s.put id (.loop st' pend' env ps as bo)) (w.putObj p.b (.loop { L with state := st', pending := pend'.map Jmp.code })) ∧
      Ext μ ι δ w μ ι δ (w.putObj p.b (.loop { L with state := st', pending := pend'.map Jmp.code })) := by
  obtain ⟨L', hL', h1, h2, h3, h4, h5, h6, h7⟩ := I.blk id _ p hg hp
  rw [hL] at hL'
  cases hL'
  have hdom := I.dom id p hp
  have hoth : ∀ k, k ≠ p.b → (w.putObj p.b (.loop { L with state := st', pending := pend'.map Jmp.code })).heap[k]? = w.heap[k]? := fun k hk => World.putObj_heap_other hk
  have hcellr : ∀ b o v, w.cell? ⟨b, o, none⟩ = some v → b ≠ p.b := by
    rintro b o v hv rfl
    simp [World.cell?, hL] at hv
  have hcell : ∀ b o, ι b o → (w.putObj p.b (.loop { L with state := st', pending := pend'.map Jmp.code })).cell? ⟨b, o, none⟩ = w.cell? ⟨b, o, none⟩ := fun b o hi => by
    obtain ⟨v, hv⟩ := I.io b o hi
    exact cell_of_heap (hoth b (hcellr b o v hv))
  have hlt : p.b < w.heap.size := hdom.2.2
  refine ⟨⟨⟨I.below.os, I.below.tape, I.below.output, by rw [World.putObj_size]; exact I.below.size, fun k hk => by rw [hoth k (by have := hdom.2.1; omega)]; exact I.below.block k hk⟩,
    fun id p hp => by rw [World.putObj_size]; exact I.dom id p hp, fun b o hi => by obtain ⟨v, hv⟩ := I.io b o hi; exact ⟨v, (hcell b o hi).trans hv⟩, fun id' b q hb hq => ?_, ?_, fun x hx => ?_, I.low⟩,
    ⟨fun _ _ h => h, fun _ _ h => h, hcell, by rw [World.putObj_size]; exact Nat.le_refl _, fun _ h => h⟩⟩
  · rw [St.get_put] at hb
    split at hb
    · rename_i he; subst he; cases hb
      obtain rfl : p = q := Option.some.inj (hp.symm.trans hq)
      exact ⟨_, World.putObj_heap_same hlt, rfl, rfl, fun t => (h3 t).mono hcell (fun _ _ h => h) (fun _ _ h => h), h4, h5, h6, h7⟩
    · rename_i he
      have hrb := I.blk id' b q hb hq
      have hne : q.b ≠ p.b := by
        intro hqe
        cases b with
        | cells m cs => obtain ⟨⟨x, h0⟩, _⟩ := hrb; rw [hqe] at h0; simp [World.shape?, hL] at h0
        | loop st pend env ps as bo => exact he (I.sep id' id _ _ q p hb hg rfl rfl hq hp hqe)
        | map es => exact he (I.sep id' id _ _ q p hb hg rfl rfl hq hp hqe)
        | iter m n0 seen last => exact he (I.sep id' id _ _ q p hb hg rfl rfl hq hp hqe)
      exact hrb.mono (fun _ _ h => h) (fun _ _ h => h) hcell (hoth _ hne) (fun _ _ h => h)
  · intro i j b1 b2 p1 p2 g1 g2 o1 o2 m1 m2 e
    rw [St.get_put] at g1 g2
    have f : ∀ {k : Nat} {b : Blk}, (if k = id then some (Blk.loop st' pend' env ps as bo) else s.get k) = some b → b.owns = true → ∃ b', s.get k = some b' ∧ b'.owns = true := by
      intro k b h ho
      split at h
      · rename_i e; subst e; exact ⟨_, hg, rfl⟩
      · exact ⟨b, h, ho⟩
    obtain ⟨c1, k1, l1⟩ := f g1 o1
    obtain ⟨c2, k2, l2⟩ := f g2 o2
    exact I.sep i j c1 c2 p1 p2 k1 k2 l1 l2 m1 m2 e
  · obtain ⟨a, b⟩ := I.defers x hx
    refine ⟨a, ?_⟩
    rw [hoth x ?_]
    · exact b
    · rintro rfl; rw [hL] at b; cases b

theorem putPs_rel : ∀ (ps : List Nat) (vs : List LV) (xs : List Value) (e : Env) (tmps : Array Value), vs.length = ps.length → xs.length = ps.length → (∀ i ∈ ps, i < tmps.size) → (∀ i, i < vs.length → Rv μ ι w (vs.getD i .top) (xs.getD i undef)) → Re μ ι w e tmps →
    Re μ ι w (putPs ps vs e) ((ps.zip xs).foldl (fun tmps (t, a) => tmps.setIfInBounds t a) tmps) ∧ ((ps.zip xs).foldl (fun tmps (t, a) => tmps.setIfInBounds t a) tmps).size = tmps.size := by
  intro ps
  induction ps with
  | nil => intro vs xs e tmps h1 h2 h3 h4 h5; simp [putPs]; exact h5
  | cons p ps ih =>
    intro vs xs e tmps h1 h2 h3 h4 h5
    match vs, xs, h1, h2 with
    | v :: vs, x :: xs, h1, h2 =>
      simp only [putPs, List.zip_cons_cons, List.foldl_cons]
      have h0 : Re μ ι w (Tr.set e p v) (tmps.setIfInBounds p x) := by
        have := Re.put (a := { tmps := tmps, defers := [] }) (d := some p) h5 (fun t ht => by cases ht; exact h3 p (by simp)) (by simpa using h4 0 (by simp))
        exact this
      obtain ⟨r1, r2⟩ := ih vs xs (Tr.set e p v) (tmps.setIfInBounds p x) (by simpa using h1) (by simpa using h2) (fun i hi => by simp; exact h3 i (List.mem_cons_of_mem _ hi)) (fun i hi => by simpa using h4 (i + 1) (by simpa using hi)) h0
      exact ⟨r1, by rw [r2]; simp⟩

/-- What is asked of a round's body. -/
def Round (id : Nat) (Q : LV → St → Prop) : Out → Env → St → Prop
  | .normal, _, s => ∃ st pend env ps as bo, s.get id = some (.loop st pend env ps as bo) ∧ Q (.bool true) (s.put id (.loop .ready none env ps as bo))
  | .jmp j, _, s => ∃ st pend env ps as bo, s.get id = some (.loop st pend env ps as bo) ∧ Q (.bool false) (s.put id (.loop .done (some j) env ps as bo))

/-- **A round.** -/
theorem call_yield {id : Nat} {env : Env} {ps : List Nat} {as bo : LCode} {pend : Option Jmp} {args : List LV} {Q : LV → St → Prop} (hg : s.get id = some (.loop .ready pend env ps as bo)) (hl : args.length = ps.length)
    (h : ∀ nt, CodeOk P G true nt as (putPs ps args env) s (Thn (fun e1 s1 => ∃ pend env ps as' bo', s1.get id = some (.loop .ready pend env ps as' bo') ∧
      CodeOk P G true nt bo e1 (s1.put id (.loop .busy pend env ps as' bo')) (Round id Q)) (fun _ _ _ => False))) : CallOk P G (.yld id) args s Q := by
  intro w0 μ ι δ w vf vargs c cs hN hvf hvl hva
  cases hvf with
  | yld hp =>
    rename_i p
    obtain ⟨L, hL, h1, h2, h3, h4, h5, h6, h7⟩ := hN.inv.blk id _ p hg hp
    have hyl := run_yield (P := P) (args := vargs) hL (by rw [h5, hvl, hl]; simp)
    -- the round's frame
    let b : Frame := { (default : Frame) with fn := L.fn, kind := .normal, roundOf := some p.b }
    let tm := (L.params.zip vargs).foldl (fun tmps (t, a) => tmps.setIfInBounds t a) L.tmps
    have hfr : Frame.round p.b L.fn tm L.assign L.body .normal = b.atR { tmps := tm, defers := [] } [.code L.assign, .beginRound, .code L.body] := by
      simp [Frame.round, Frame.atR, b]
    have htm : tm = (ps.zip vargs.toList).foldl (fun tmps (t, a) => tmps.setIfInBounds t a) L.tmps := by
      simp only [tm, h5]
      rw [← Array.foldl_toList, Array.toList_zip]
    obtain ⟨hre, hsz⟩ := putPs_rel (μ := μ) (ι := ι) (w := w) ps args vargs.toList env L.tmps hl (by simpa [hvl] using hl) h4 (fun i hi => by
      have := hva i hi
      simpa [List.getD_eq_getElem?_getD, Array.getD_eq_getD_getElem?] using this) h3
    rw [← htm] at hre hsz
    have hF : Fr P G w0 μ ι δ s w L.tmps.size (putPs ps args env) { tmps := tm, defers := [] } := ⟨hN, hre, hsz⟩
    obtain ⟨o, e1, s1, μ1, ι1, δ1, w1, a1, hq, har, hF1, hW1⟩ := h L.tmps.size L.assign h6 w0 μ ι δ w b _ [.beginRound, .code L.body] (c :: cs) rfl hF
    cases o with
    | jmp j => exact hq.elim
    | normal =>
      obtain ⟨pend1, env1, ps1, as1, bo1, hg1, hbody⟩ := hq
      have hp1 := hW1.ext.mu id p hp
      obtain ⟨L1, hL1, k1, k2, k3, k4, k5, k6, k7⟩ := hF1.now.inv.blk id _ p hg1 hp1
      obtain ⟨I2, x2⟩ := hF1.now.inv.reloop (st' := .busy) (pend' := pend1) hg1 hp1 hL1
      rw [← k2] at I2 x2
      have hbr : (Instr.beginRound p.b).run P w1 = .ok () (w1.putObj p.b (.loop { L1 with state := .busy })) := run_beginRound hL1 k1
      have hF2 : Fr P G w0 μ1 ι1 δ1 (s1.put id (.loop .busy pend1 env1 ps1 as1 bo1)) (w1.putObj p.b (.loop { L1 with state := .busy })) L.tmps.size e1 a1 := ⟨hF1.now.ext I2 x2, hF1.re.ext x2, hF1.size⟩
      obtain ⟨o, e3, s3, μ3, ι3, δ3, w3, a3, hq, har3, hF3, hW3⟩ := hbody L.body h7 w0 μ1 ι1 δ1 _ b a1 [] (c :: cs) rfl hF2
      have hp3 := hW3.ext.mu id p hp1
      have hk2 : Kept μ1 s1 μ1 (s1.put id (.loop .busy pend1 env1 ps1 as1 bo1)) := Kept.put hp1 _
      have hδ : ∀ r, δ r → δ3 r := fun r hr => hW3.ext.de r (hW1.ext.de r hr)
      have hst1 : Steps P (lone (Frame.round p.b L.fn tm L.assign L.body .normal) (c :: cs) w) (lone (b.atR a1 [.code L.body]) (c :: cs) (w1.putObj p.b (.loop { L1 with state := .busy }))) := by
        rw [hfr]
        exact Steps.trans har (.one (stepR_beginRound rfl hbr))
      have fin : ∀ (j : Option Jmp), (∃ st pend env ps as bo, s3.get id = some (.loop st pend env ps as bo) ∧ Q (.bool j.isNone) (s3.put id (.loop (if j.isNone then .ready else .done) j env ps as bo))) →
          (∀ v w', (Instr.endRound p.b (j.map Jmp.code)).run P w3 = .ok v w' → Steps P (lone (b.atR a1 [.code L.body]) (c :: cs) (w1.putObj p.b (.loop { L1 with state := .busy }))) (lone (c.finish v) cs w')) →
          ∃ lv s' μ' ι' w' v, Q lv s' ∧ Goes P (.func (.yield p.b) #[] #[]) vargs w c cs v w' ∧ Inv (cmpR P G) w0 μ' ι' δ s' w' ∧ Ext μ ι δ w μ' ι' δ w' ∧ Kept μ s μ' s' ∧ Rv μ' ι' w' lv v := by
        intro j hgl hst
        obtain ⟨st, pd, env3, ps3, as3, bo3, hg3, hQ⟩ := hgl
        obtain ⟨L3, hL3, m1, m2, m3, m4, m5, m6, m7⟩ := hF3.now.inv.blk id _ p hg3 hp3
        obtain ⟨I4, x4⟩ := hF3.now.inv.reloop (st' := if j.isNone then .ready else .done) (pend' := j) hg3 hp3 hL3
        have her := run_endRound (P := P) (j.map Jmp.code) hL3
        have hj : (j.map Jmp.code).isNone = j.isNone := by cases j <;> rfl
        rw [hj] at her
        have hx : Ext μ ι δ w μ3 ι3 δ3 (w3.putObj p.b (.loop { L3 with state := if j.isNone then .ready else .done, pending := j.map Jmp.code })) := ((hW1.ext.trans x2).trans hW3.ext).trans x4
        refine ⟨_, _, μ3, ι3, _, _, hQ, ⟨_, .round p.b L.fn tm L.assign L.body, w, fun w => ofValue_run _ _ _ _ P w, ?_, ?_⟩, I4.less hδ, ⟨hx.mu, hx.io, hx.cell, hx.size, fun _ h => h⟩, ?_, .bool _⟩
        · simp only [invoke, Array.empty_append]
          exact hyl
        · exact Steps.trans hst1 (hst _ _ her)
        · exact ((hW1.kept.trans hk2).trans hW3.kept).trans (Kept.put hp3 _)
      rcases o with _ | _ | id'
      · exact fin none hq fun v w' her => Steps.trans har3 (.one (stepR_round_end rfl rfl her))
      · obtain ⟨k', har3⟩ := har3
        exact fin (some .ret) hq fun v w' her => Steps.trans har3 (.one (stepR_round_ret rfl rfl her))
      · obtain ⟨k', hk, har3⟩ := har3
        exact fin (some (.exit id')) hq fun v w' her => Steps.trans har3 (.one (stepR_round_exit rfl rfl hk her))

theorem comp_rangeFunc {c : Ctx} {x : Code} {y : Opd} {ps : List Nat} {as bo : LCode} (h : compCode c x = .rangeFunc y ps as bo) : ∃ g pa p q, x = .rangeFunc g pa p q ∧ opd c g = some y ∧ pa.toList = ps ∧ (∀ i ∈ ps, i < c.nt) ∧ compCode c p = as ∧ compCode c q = bo := by
  cases x <;> simp only [compCode, reduceCtorEq] at h
  · split at h <;> cases h
  · split at h <;> cases h
  · split at h
    · rename_i hy
      split at h
      · rename_i hps
        cases h
        exact ⟨_, _, _, _, rfl, hy, rfl, fun i hi => by simpa using List.all_eq_true.1 hps i hi, rfl, rfl⟩
      · cases h
    · cases h

/-- What is asked behind a range over a function. -/
def Ranged (id : Nat) (e : Env) (Q : Out → Env → St → Prop) (s : St) : Prop :=
  ∃ st pend env ps as bo, s.get id = some (.loop st pend env ps as bo) ∧ st ≠ .busy ∧ (match pend with | none => Q .normal e (s.put id (.loop .exhausted none env ps as bo)) | some j => Q (.jmp j) e (s.put id (.loop .exhausted (some j) env ps as bo)))

/-- **The statement.** -/
theorem ok_rangeFunc {y : Opd} {ps : List Nat} {as bo : LCode} {Q : Out → Env → St → Prop} (h : CallOk P G (y.ev e) [.yld s.n] (s.new (.loop .ready none e ps as bo)) (fun _ s' => Ranged s.n e Q s')) : CodeOk P G false nt (.rangeFunc y ps as bo) e s Q := by
  rintro c ⟨refs, hc⟩ w0 μ ι δ w b a k cs hb hf
  obtain ⟨g, pa, p, q, rfl, hy, hpa, hps, h1, h2⟩ := comp_rangeFunc hc
  have hb0 : b.roundOf = none := by simpa using hb
  have hent := run_enterLoop_outer (P := P) (w := w) b.fn a.tmps pa p q
  -- the two blocks
  let wa : World := { w with heap := w.heap.push (.deferred (some [])) }
  let L : Loop := { state := .ready, pending := none, fn := b.fn, tmps := a.tmps, params := pa, assign := p, body := q, defers := w.heap.size }
  let w1 : World := { wa with heap := wa.heap.push (.loop L) }
  have hsa : Same w wa := Same.alloc w _
  have hs1 : Same wa w1 := Same.alloc wa _
  have hs : Same w w1 := hsa.trans hs1
  have hwa : wa.heap.size = w.heap.size + 1 := by simp [wa]
  have hw1 : w1.heap.size = w.heap.size + 2 := by simp [w1, wa]
  have hr1 : w1.heap[w.heap.size]? = some (.deferred (some [])) := by
    rw [hs1.block _ (by rw [hwa]; exact Nat.lt_succ_self _)]
    simp [wa]
  have hl1 : w1.heap[w.heap.size + 1]? = some (.loop L) := by
    rw [← hwa]; simp [w1]
  have I1 := hf.now.inv.same hs
  have x1 := hf.now.inv.ext_same hs
  let δ1 : Nat → Prop := fun r => δ r ∨ r ∈ [w.heap.size]
  have I1' : Inv (cmpR P G) w0 μ ι δ1 s w1 := ⟨I1.below, I1.dom, I1.io, I1.blk, I1.sep, fun r hr => by
    rcases hr with hr | hr
    · exact I1.defers r hr
    · have : r = w.heap.size := by simpa using hr
      subst this
      exact ⟨hf.now.inv.hB, hr1⟩, I1.low⟩
  have hrb : Rb (cmpR P G) μ ι w1 ⟨w.heap.size + 1, 0, 0⟩ (.loop .ready none e ps as bo) :=
    ⟨L, hl1, rfl, rfl, hf.re.ext x1, fun i hi => by have := hps i hi; show i < a.tmps.size; rw [hf.size]; exact this, by rw [← hpa], ⟨refs, by show compCode ⟨P, G, refs, a.tmps.size⟩ p = as; rw [hf.size]; exact h1⟩, ⟨refs, by show compCode ⟨P, G, refs, a.tmps.size⟩ q = bo; rw [hf.size]; exact h2⟩⟩
  obtain ⟨I2, x2⟩ := I1'.addBlk ⟨w.heap.size + 1, 0, 0⟩ (.loop .ready none e ps as bo) (by have := hf.now.inv.hB; show w0.heap.size ≤ w.heap.size + 1; omega) (by show w.heap.size + 1 < w1.heap.size; omega) hrb
    (fun _ id b' p' _ _ hm he => by have := (hf.now.inv.dom id p' hm).2.2; have he' : p'.b = w.heap.size + 1 := he; omega)
  have x12 : Ext μ ι δ w (μ.upd s.n ⟨w.heap.size + 1, 0, 0⟩) ι δ1 w1 := ⟨x2.mu, fun _ _ h => h, x1.cell, hs.size, fun _ h => .inl h⟩
  have hN2 : Now P G w0 (μ.upd s.n ⟨w.heap.size + 1, 0, 0⟩) ι δ1 (s.new (.loop .ready none e ps as bo)) w1 := hf.now.ext I2 x12
  have hk2 : Kept μ s (μ.upd s.n ⟨w.heap.size + 1, 0, 0⟩) (s.new (.loop .ready none e ps as bo)) := Kept.new _ _
  have hyid : (μ.upd s.n ⟨w.heap.size + 1, 0, 0⟩) s.n = some ⟨w.heap.size + 1, 0, 0⟩ := by simp [Mu.upd]
  have hvf := opd_rel (c := ⟨P, G, refs, nt⟩) rfl rfl hf.now hy (fun t _ => hf.re t)
  let a' : Act := { a with defers := mark w.heap.size :: a.defers }
  obtain ⟨lv, s3, μ3, ι3, w3, v, hR, hgo, I3, x3, hk3, hrv⟩ := h w0 _ ι δ1 w1 (a.eval g) #[.func (.yield (w.heap.size + 1)) #[] #[]] (b.atR a' (.inRangeFunc (w.heap.size + 1) :: k)) cs hN2 (hvf.ext x12) rfl (fun i hi => by
    have hi0 : i = 0 := by simpa using hi
    subst hi0
    exact .yld hyid)
  obtain ⟨st, pend, env3, ps3, as3, bo3, hg3, hbusy, hQ⟩ := hR
  have hp3 := x3.mu _ _ hyid
  obtain ⟨L3, hL3, m1, m2, m3, m4, m5, m6, m7⟩ := I3.blk _ _ _ hg3 hp3
  obtain ⟨I4, x4⟩ := I3.reloop (st' := .exhausted) (pend' := pend) hg3 hp3 hL3
  rw [← m2] at I4 x4
  have hel := run_endLoop (P := P) hL3 (by rw [m1]; exact hbusy)
  -- the machine
  obtain ⟨d, nx, w2, g1, g2, g3⟩ := hgo
  have hev : (b.atR a' (.inRangeFunc (w.heap.size + 1) :: k)).eval = a.eval := by rw [Frame.eval_atR]; rfl
  have hres : (resolve a.eval (rangeCall g (w.heap.size + 1)) 0).run P w1 = .ok d w1 := by
    have := g1 w1
    simpa [resolve, rangeCall, Act.eval] using this
  have hfin : (b.atR a' (.inRangeFunc (w.heap.size + 1) :: k)).finish v = b.atR a' (.endRangeFunc (w.heap.size + 1) :: k) := finish_atR_inRangeFunc _ _
  have hsteps : Steps P (lone (b.atR a (.code (.rangeFunc g pa p q) :: k)) cs w) (lone (b.atR a' (.endRangeFunc (w.heap.size + 1) :: k)) cs w3) := by
    have hent' : (Instr.enterLoop b.fn a.tmps pa p q b.roundOf).run P w = .ok (w.heap.size + 1, [mark w.heap.size]) w1 := by rw [hb0]; exact hent
    have hevt : Frame.eval { fn := b.fn, tmps := a.tmps, todo := .inRangeFunc (w.heap.size + 1) :: k, defers := mark w.heap.size :: a.defers, mode := .run, kind := b.kind, roundOf := b.roundOf } = a.eval := hev
    have hres' : Sem.run P (resolve a.eval { callee := .value g, args := #[.const (.func (.yield (w.heap.size + 1)) #[] #[])], argTypes := #[] } 0) w1 = .ok d w1 := hres
    cases nx <;> try (exact g3.elim)
    case value v' =>
      obtain ⟨rfl, rfl⟩ := g3
      refine .one (step_lone_go ?_)
      rw [← hfin]
      simp [stepG, stepG.exec, Frame.atR, Sem.runT_eq, hent', GStep.bare_after, stepG.apply, hevt, Sem.run_bind, hres', g2, Result.andThen, a']
    case enter f' as' =>
      refine .head (m₁ := lone (Frame.enter P f' as' .normal) (b.atR a' (.inRangeFunc (w.heap.size + 1) :: k) :: cs) w2) (step_lone_go ?_) (by rw [← hfin]; exact g3)
      simp [stepG, stepG.exec, Frame.atR, Sem.runT_eq, hent', GStep.bare_after, stepG.apply, hevt, Sem.run_bind, hres', g2, Result.andThen, a']
    case round l f' tmps as' bo' =>
      refine .head (m₁ := lone (Frame.round l f' tmps as' bo' .normal) (b.atR a' (.inRangeFunc (w.heap.size + 1) :: k) :: cs) w2) (step_lone_go ?_) (by rw [← hfin]; exact g3)
      simp [stepG, stepG.exec, Frame.atR, Sem.runT_eq, hent', GStep.bare_after, stepG.apply, hevt, Sem.run_bind, hres', g2, Result.andThen, a']
  have hend := stepR_endRangeFunc (b := b) (a := a') (k := k) (cs := cs) hel
  have hx : Ext μ ι δ w μ3 ι3 δ1 (w3.putObj (w.heap.size + 1) (.loop { L3 with state := .exhausted })) := (x12.trans x3).trans x4
  have hF4 : Fr P G w0 μ3 ι3 δ1 (s3.put s.n (.loop .exhausted pend env3 ps3 as3 bo3)) (w3.putObj (w.heap.size + 1) (.loop { L3 with state := .exhausted })) nt e a' := ⟨hf.now.ext I4 hx, hf.re.ext hx, hf.size⟩
  have hW : Went μ ι δ s w a.defers μ3 ι3 δ1 (s3.put s.n (.loop .exhausted pend env3 ps3 as3 bo3)) (w3.putObj (w.heap.size + 1) (.loop { L3 with state := .exhausted })) a'.defers := by
    refine ⟨hx, (hk2.trans hk3).trans (Kept.put hp3 _), [w.heap.size], rfl, by simp, fun r hr hd => ?_, fun r => Iff.rfl⟩
    have : r = w.heap.size := by simpa using hr
    subst this
    obtain ⟨_, hh⟩ := hf.now.inv.defers _ hd
    simp at hh
  have hend2 : step P (lone (b.atR a' (.endRangeFunc (w.heap.size + 1) :: k)) cs w3) = .next (lone (b.atR a' (((pend.map Jmp.code).map Item.code).toList ++ k)) cs (w3.putObj (w.heap.size + 1) (.loop { L3 with state := .exhausted }))) := by
    have h := hend
    rw [m2] at h ⊢
    exact h
  cases pend with
  | none => exact ⟨.normal, e, _, μ3, ι3, δ1, _, a', hQ, Steps.trans hsteps (.one hend2), hF4, hW⟩
  | some j =>
    cases j with
    | ret => exact ⟨.jmp .ret, e, _, μ3, ι3, δ1, _, a', hQ, ⟨k, Steps.trans hsteps (.one hend2)⟩, hF4, hW⟩
    | exit id => exact ⟨.jmp (.exit id), e, _, μ3, ι3, δ1, _, a', hQ, ⟨k, rfl, Steps.trans hsteps (.one hend2)⟩, hF4, hW⟩
end
end Go.Pv
