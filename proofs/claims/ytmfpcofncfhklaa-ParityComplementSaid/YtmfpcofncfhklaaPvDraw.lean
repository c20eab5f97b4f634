/- Drawn regions: whatever order is drawn comes to what the one order comes to. -/
import Derived.Test.YtmfpcofncfhklaaPvDraw0
set_option linter.unusedSimpArgs false
set_option linter.unusedVariables false
namespace Go.Pv
open Go Go.RowKit

def DstIs (e : Env) (lo : LOper) (v : LV) : Prop := ∀ d, lo.dst = some d → e.at d = v

/-- A look or a making that is done here, and not yet in the world. -/
def POk (pid : Nat → Option Nat) (μ : Mu) (e : Env) (s : St) (x : DOp) : Prop :=
  (wantedG x.2.2.guard e = some false ∧ DstIs e x.2.2 (.tup [])) ∨
  (wantedG x.2.2.guard e = some true ∧ isRow x.2.2.op = false ∧ (looksL x.2.2.op = true ∨ (isBoxIm x.2.2.op = true ∧ strictOk true x.2.2.op e = true)) ∧ ∃ v, DstIs e x.2.2 v ∧ x.2.2.op.run e s = some (v, s)) ∨
  (wantedG x.2.2.guard e = some true ∧ isRow x.2.2.op = true ∧ ∃ s0 cs v, pid x.1 = some s0.n ∧ x.2.2.op.run e s0 = some (v, s0.new (.cells .mut cs)) ∧ DstIs e x.2.2 v ∧ μ s0.n = none ∧ s.get s0.n = some (.cells .mut cs))

section
variable {P : Program} {G : Globs} {refs : List Nat} {nt : Nat} {ops : Array Oper} {base : List DOp} {w0 : Bs} {δ : Nat → Prop} {μs μ : Mu} {ιs ι : Io} {ss s : St} {ws w : World} {e : Env} {a : Act} {b : Frame} {k : List Item} {cs : List Frame}

theorem POk.congr {pid pid' : Nat → Option Nat} {μ' : Mu} {e' : Env} {s' : St} {x : DOp} (h : POk pid μ e s x) (hr : ∀ t ∈ readsOf ops x, e'.at t = e.at t) (hd : ∀ d, x.2.2.dst = some d → e'.at d = e.at d)
    (hp : ∀ id, pid x.1 = some id → pid' x.1 = some id) (hs : ∀ id, pid x.1 = some id → μ id = none → s'.get id = s.get id) (hm : ∀ id, pid x.1 = some id → μ id = none → μ' id = none)
    (hld : isLoadL x.2.2.op = true → wantedG x.2.2.guard e' = some true → ∀ v, DstIs e' x.2.2 v → x.2.2.op.run e s = some (v, s) → x.2.2.op.run e' s' = some (v, s')) : POk pid' μ' e' s' x := by
  have hw : wantedG x.2.2.guard e' = wantedG x.2.2.guard e := wantedG_congr fun d want hg => hr d (by simp [readsOf, hg])
  have hrun : ∀ s, x.2.2.op.run e' s = x.2.2.op.run e s := fun s => run_congr _ fun t ht => hr t (by simp [readsOf, ht])
  have hdi : ∀ v, DstIs e x.2.2 v → DstIs e' x.2.2 v := fun v h d hd' => (hd d hd').trans (h d hd')
  rcases h with ⟨h1, h2⟩ | ⟨h1, h2, h3, v, h4, h5⟩ | ⟨h1, h2, s0, cs, v, h3, h4, h5, h6, h7⟩
  · exact .inl ⟨hw.trans h1, hdi _ h2⟩
  · refine .inr (.inl ⟨hw.trans h1, h2, ?_, v, hdi _ h4, ?_⟩)
    · refine h3.imp id (fun h => ⟨h.1, ?_⟩)
      have h32 := h.2
      cases hop : x.2.2.op <;> rw [hop] at h32 <;> try rfl
      rename_i im y
      cases im
      · rfl
      · have : y.ev e' = y.ev e := Opd.congr fun t ht => hr t (by simp [readsOf, hop, LOp.tmps, ht])
        simpa [strictOk, this] using h32
    · by_cases hl : isLoadL x.2.2.op = true
      · exact hld hl (hw.trans h1) v (hdi _ h4) h5
      · rw [hrun]
        rcases h3 with h3 | ⟨h3, h3'⟩
        · exact look_pure h3 (by simpa using hl) h5
        · exact (box_pure h3 h3' h5).2 s'
  · exact .inr (.inr ⟨hw.trans h1, h2, s0, cs, v, hp _ h3, by rw [hrun]; exact h4, hdi _ h5, hm _ h3 h6, by rw [hs _ h3 h6]; exact h7⟩)

structure Sim (P : Program) (G : Globs) (nt : Nat) (ops : Array Oper) (base : List DOp) (w0 : Bs) (δ : Nat → Prop) (μs : Mu) (ιs : Io) (ss : St) (ws : World)
    (pend pre rest : List DOp) (listed : Array Bool) (pid : Nat → Option Nat) (μ : Mu) (ι : Io) (e : Env) (s : St) (w : World) (a : Act) : Prop where
  now : Now P G w0 μ ι δ s w
  size : a.tmps.size = nt
  re : ∀ t, (∀ x ∈ pend, x.2.2.dst ≠ some t) → Rv μ ι w (e.at t) (a.tmps.getD t undef)
  pok : ∀ x ∈ pend, POk pid μ e s x
  pinj : ∀ i j id, pid i = some id → pid j = some id → i = j
  plt : ∀ i id, pid i = some id → id < s.n ∧ ss.n ≤ id
  flt : ∀ x ∈ pend, isFloat x.2.2.op = true
  lsz : listed.size = ops.size
  lst : ∀ x ∈ base, (listed.getD x.1 false = true ↔ x ∉ pend ∧ x ∉ rest)
  cls : ∀ k, listed.getD k false = true → ∀ o, ops[k]? = some o → ∀ d ∈ depsOf o, listed.getD d false = true
  base : base = pre ++ rest
  sub : ∀ x ∈ pend, x ∈ pre
  nd : pend.Nodup
  ext : Ext μs ιs δ ws μ ι δ w
  kept : Kept μs ss μ s

theorem key_inj (K : Known ⟨P, G, refs, nt⟩ ops base) {x y : DOp} (hx : x ∈ base) (hy : y ∈ base) (h : x.1 = y.1) : x = y := by
  obtain ⟨h1, h2⟩ := K.at_ x hx
  obtain ⟨h3, h4⟩ := K.at_ y hy
  rw [h] at h1
  have ho : x.2.1 = y.2.1 := Option.some.inj (h1.symm.trans h3)
  rw [ho] at h2
  have hl : x.2.2 = y.2.2 := Option.some.inj (h2.symm.trans h4)
  exact Prod.ext h (Prod.ext ho hl)

theorem chks_mem : ∀ {l : List (Nat × Option (Nat × Bool) × LOp)} {e : Env} {s : St}, Chks l e s → ∀ q ∈ l, wantedG q.2.1 e = some false ∨ (wantedG q.2.1 e = some true ∧ q.2.2.run e s = some (e.at q.1, s)) := by
  intro l
  induction l with
  | nil => intro e s _ q hq; exact absurd hq (List.not_mem_nil)
  | cons p l ih =>
    intro e s h q hq
    obtain ⟨h1, h2⟩ := h
    rcases List.mem_cons.1 hq with rfl | hq
    · exact h1
    · exact ih h2 q hq

theorem chk_load {anc : List Nat} {pre : List DOp} {x y : DOp} {e' : Env} {s' : St} (hc : Chks (chkOf anc pre x) e' s') (hx : (looksL x.2.2.op || isBoxIm x.2.2.op) = false) (hy : y ∈ pre) (hl : isLoadL y.2.2.op = true)
    (hd : ∃ d, y.2.2.dst = some d) (ha : isRow x.2.2.op = true ∨ (anc.getD x.1 0).testBit y.1 = false) (hw : wantedG y.2.2.guard e' = some true) {v : LV} (hv : DstIs e' y.2.2 v) : y.2.2.op.run e' s' = some (v, s') := by
  obtain ⟨d, hd⟩ := hd
  have hm : (d, y.2.2.guard, y.2.2.op) ∈ chkOf anc pre x := by
    unfold chkOf
    rw [hx]
    simp only [Bool.false_eq_true, if_false]
    refine List.mem_filterMap.2 ⟨y, hy, ?_⟩
    have : (isLoadL y.2.2.op && (isRow x.2.2.op || !(anc.getD x.1 0).testBit y.1)) = true := by
      rw [hl, Bool.true_and]
      rcases ha with h | h <;> rw [h] <;> simp
    rw [if_pos this, hd]
    rfl
  rcases chks_mem hc _ hm with h | ⟨_, h⟩
  · rw [hw] at h; cases h
  · simp only at h
    rw [hv d hd] at h
    exact h

/-- Looks and makes are done as early as may be. -/
theorem Sim.greedy (K : Known ⟨P, G, refs, nt⟩ ops base) {KK : Env → St → Prop} : ∀ (rest : List DOp) (pend pre : List DOp) (listed : Array Bool) (pid : Nat → Option Nat) (e : Env) (s : St),
    Sim P G nt ops base w0 δ μs ιs ss ws pend pre rest listed pid μ ι e s w a → Chain P G (drawn (ancs ops.toList []) pre rest) e s KK →
    ∃ pend' pre' rest' pid' e' s', Sim P G nt ops base w0 δ μs ιs ss ws pend' pre' rest' listed pid' μ ι e' s' w a ∧ Chain P G (drawn (ancs ops.toList []) pre' rest') e' s' KK ∧
      (rest' = [] ∨ ∃ x r, rest' = x :: r ∧ isFloat x.2.2.op = false) ∧ pend'.length + rest'.length = pend.length + rest.length := by
  intro rest
  induction rest with
  | nil => intro pend pre listed pid e s S h; exact ⟨pend, pre, [], pid, e, s, S, h, .inl rfl, rfl⟩
  | cons x rest ih =>
    intro pend pre listed pid e s S h
    cases hf : isFloat x.2.2.op with
    | false => exact ⟨pend, pre, x :: rest, pid, e, s, S, h, .inr ⟨x, rest, rfl, hf⟩, rfl⟩
    | true =>
      have hxb : x ∈ base := by rw [S.base]; simp
      have hpreb : ∀ y ∈ pre, y ∈ base := fun y hy => by rw [S.base]; exact List.mem_append_left _ hy
      have hnd : (pre ++ x :: rest).Nodup := by
        have := K.nd
        rw [S.base] at this
        exact List.Pairwise.of_map (·.1) (fun a b h e => h (by rw [e])) this
      have hxpre : x ∉ pre := fun h => (List.nodup_append.1 hnd).2.2 x h x (by simp) rfl
      have hxrest : x ∉ rest := (List.nodup_cons.1 (List.nodup_append.1 hnd).2.1).1
      have hlater := K.later pre x rest S.base
      have hat0 : ∀ v t, x.2.2.dst ≠ some t → (e.put x.2.2.dst v).at t = e.at t := fun v t ht => by
        cases hd : x.2.2.dst with
        | none => rfl
        | some d => rw [hd] at ht; rw [Env.put_some, Env.at_set, if_neg (fun h => ht (by rw [h]))]
      have hry : ∀ v, ∀ y ∈ pend, ∀ t ∈ readsOf ops y, (e.put x.2.2.dst v).at t = e.at t := fun v y hy t ht => hat0 v t fun hd => hlater y (S.sub y hy) t hd ht
      -- what becomes of the state of affairs: a new value at the destination, the small heap as it was, or with a new block
      have go : ∀ (v : LV) (s' : St) (pid' : Nat → Option Nat), (s' = s ∧ pid' = pid) ∨ (∃ bl, s' = s.new bl ∧ pid' = fun i => if i = x.1 then some s.n else pid i) →
          (∀ y ∈ pend, isLoadL y.2.2.op = true → wantedG y.2.2.guard (e.put x.2.2.dst v) = some true → ∀ v', DstIs (e.put x.2.2.dst v) y.2.2 v' → y.2.2.op.run e s = some (v', s) → y.2.2.op.run (e.put x.2.2.dst v) s' = some (v', s')) →
          POk pid' μ (e.put x.2.2.dst v) s' x →
          Sim P G nt ops base w0 δ μs ιs ss ws (x :: pend) (pre ++ [x]) rest listed pid' μ ι (e.put x.2.2.dst v) s' w a := by
        intro v s' pid' hs hld hx
        have hat : ∀ t, x.2.2.dst ≠ some t → (e.put x.2.2.dst v).at t = e.at t := fun t ht => by
          cases hd : x.2.2.dst with
          | none => rfl
          | some d => rw [hd] at ht; rw [Env.put_some, Env.at_set, if_neg (fun h => ht (by rw [h]))]
        have hinv : Inv (cmpR P G) w0 μ ι δ s' w ∧ Kept μ s μ s' := by
          rcases hs with ⟨rfl, _⟩ | ⟨bl, rfl, _⟩
          · exact ⟨S.now.inv, Kept.refl _ _⟩
          · exact ⟨S.now.inv.phantom bl, by simp, fun id hid _ => by rw [St.get_new, if_neg (by omega)], fun _ _ h => h⟩
        have hpid : ∀ y ∈ pend, ∀ id, pid y.1 = some id → pid' y.1 = some id ∧ s'.get id = s.get id := by
          intro y hy id hid
          have hne : y.1 ≠ x.1 := fun h => hxpre ((key_inj K (hpreb y (S.sub y hy)) hxb h) ▸ S.sub y hy)
          rcases hs with ⟨rfl, rfl⟩ | ⟨bl, rfl, rfl⟩
          · exact ⟨hid, rfl⟩
          · exact ⟨by simp only [if_neg hne]; exact hid, by rw [St.get_new, if_neg (by have := (S.plt _ _ hid).1; omega)]⟩
        refine ⟨⟨hinv.1, S.now.glob⟩, S.size, fun t ht => ?_, fun y hy => ?_, ?_, ?_, ?_, S.lsz, fun y hy => ?_, S.cls, by rw [S.base]; simp, ?_, ?_, S.ext, S.kept.trans hinv.2⟩
        · rw [hat t (ht x (by simp))]
          exact S.re t fun y hy => ht y (List.mem_cons_of_mem _ hy)
        · rcases List.mem_cons.1 hy with rfl | hy
          · exact hx
          · refine (S.pok y hy).congr (ops := ops) (fun t ht => hat t fun hd => hlater y (S.sub y hy) t hd ht) (fun d hd => hat d fun hd' => ?_) (fun id h => (hpid y hy id h).1) (fun id h _ => (hpid y hy id h).2) (fun _ _ h => h) (hld y hy)
            exact hxpre ((key_inj K (hpreb y (S.sub y hy)) hxb (K.dst y (hpreb y (S.sub y hy)) x hxb d hd hd')) ▸ S.sub y hy)
        · rcases hs with ⟨_, rfl⟩ | ⟨bl, _, rfl⟩
          · exact S.pinj
          · intro i j id hi hj
            dsimp only at hi hj
            split at hi <;> split at hj
            · omega
            · cases hi; have := (S.plt _ _ hj).1; omega
            · cases hj; have := (S.plt _ _ hi).1; omega
            · exact S.pinj i j id hi hj
        · rcases hs with ⟨rfl, rfl⟩ | ⟨bl, rfl, rfl⟩
          · exact S.plt
          · intro i id hi
            dsimp only at hi
            split at hi
            · cases hi; exact ⟨by simp, S.kept.n⟩
            · have := S.plt i id hi; exact ⟨by simp; omega, this.2⟩
        · intro y hy
          rcases List.mem_cons.1 hy with rfl | hy
          · exact hf
          · exact S.flt y hy
        · rw [S.lst y hy]
          simp only [List.mem_cons, not_or]
          constructor
          · rintro ⟨h1, h2, h3⟩; exact ⟨⟨h2, h1⟩, h3⟩
          · rintro ⟨⟨h2, h1⟩, h3⟩; exact ⟨h1, h2, h3⟩
        · intro y hy
          rcases List.mem_cons.1 hy with rfl | hy
          · simp
          · exact List.mem_append_left _ (S.sub y hy)
        · exact List.nodup_cons.2 ⟨fun h => hxpre (S.sub x h), S.nd⟩
      have hself : ∀ t ∈ readsOf ops x, x.2.2.dst ≠ some t := fun t ht hd => (K.reads x hxb x hxb t hd ht).1 rfl
      have hat : ∀ v t, t ∈ readsOf ops x → (e.put x.2.2.dst v).at t = e.at t := fun v t ht => by
        cases hd : x.2.2.dst with
        | none => rfl
        | some d => rw [Env.put_some, Env.at_set, if_neg (fun h => hself t ht (by rw [hd, h]))]
      have hw' : ∀ v, wantedG x.2.2.guard (e.put x.2.2.dst v) = wantedG x.2.2.guard e := fun v => wantedG_congr fun d want hg => hat v d (by simp [readsOf, hg])
      have hrun' : ∀ v s, x.2.2.op.run (e.put x.2.2.dst v) s = x.2.2.op.run e s := fun v s => run_congr _ fun t ht => hat v t (by simp [readsOf, ht])
      have hdi : ∀ v, DstIs (e.put x.2.2.dst v) x.2.2 v := fun v d hd => by rw [hd]; simp
      have hcl : isCallL x.2.2.op = false := by
        cases hc : isCallL x.2.2.op with
        | false => rfl
        | true =>
          exfalso
          rcases isCallL_inv hc with ⟨f, as, hh⟩ | ⟨f, hh⟩ <;> rw [hh] at hf <;> cases hf
      have done : ∀ pid' v s', Sim P G nt ops base w0 δ μs ιs ss ws (x :: pend) (pre ++ [x]) rest listed pid' μ ι (e.put x.2.2.dst v) s' w a → Chain P G (drawn (ancs ops.toList []) (pre ++ [x]) rest) (e.put x.2.2.dst v) s' KK →
          ∃ pend' pre' rest' pid' e' s', Sim P G nt ops base w0 δ μs ιs ss ws pend' pre' rest' listed pid' μ ι e' s' w a ∧ Chain P G (drawn (ancs ops.toList []) pre' rest') e' s' KK ∧
          (rest' = [] ∨ ∃ x r, rest' = x :: r ∧ isFloat x.2.2.op = false) ∧ pend'.length + rest'.length = pend.length + (x :: rest).length := by
        intro pid' v s' S' h'
        obtain ⟨pend', pre', rest', pid', e', s', r1, r2, r3, r4⟩ := ih (x :: pend) (pre ++ [x]) listed pid' _ s' S' h'
        exact ⟨pend', pre', rest', pid', e', s', r1, r2, r3, by rw [r4]; simp; omega⟩
      simp only [drawn, Chain] at h
      split at h
      · exact h.elim
      · rename_i hw
        exact done pid (.tup []) s (go (.tup []) s pid (.inl ⟨rfl, rfl⟩) (fun y hy hl hwy v' hv hr => by
          rw [← hr]; exact run_congr _ fun t ht => hry _ y hy t (by simp [readsOf, ht])) (.inl ⟨(hw' _).trans hw, hdi _⟩)) h
      · rename_i hw
        obtain ⟨v, s', hrun, hst, hck, hch⟩ := opGo_inv h hcl
        have hrd : ∀ y ∈ pend, ∀ s, y.2.2.op.run (e.put x.2.2.dst v) s = y.2.2.op.run e s := fun y hy s => run_congr _ fun t ht => hry v y hy t (by simp [readsOf, ht])
        cases hrow : isRow x.2.2.op with
        | true =>
          obtain ⟨cs, rfl⟩ := row_shape hrow hrun
          refine done _ v _ (go v _ _ (.inr ⟨_, rfl, rfl⟩) (fun y hy hl hwy v' hv hr => ?_) (.inr (.inr ⟨(hw' v).trans hw, hrow, s, cs, v, if_pos rfl, by rw [hrun']; exact hrun, hdi v, ?_, by rw [St.get_new, if_pos rfl]⟩))) hch
          · exact chk_load hck (by cases hop : x.2.2.op <;> rw [hop] at hrow <;> first | (cases hrow; done) | rfl | (rename_i im _; cases im <;> first | rfl | cases hrow)) (S.sub y hy) hl (K.ldst y (hpreb y (S.sub y hy)) hl) (.inl hrow) hwy hv
          · exact S.now.inv.mu_n
        | false =>
          have hlb : looksL x.2.2.op = true ∨ isBoxIm x.2.2.op = true := by
            unfold isFloat at hf
            rw [hrow, Bool.or_false, Bool.or_eq_true] at hf
            exact hf
          have hss : s' = s := by
            rcases hlb with hl | hl
            · exact look_same hl hrun
            · exact (box_pure hl hst hrun).1
          subst hss
          refine done _ v _ (go v s' pid (.inl ⟨rfl, rfl⟩) (fun y hy hl hwy v' hv hr => by rw [hrd y hy]; exact hr) (.inr (.inl ⟨(hw' v).trans hw, hrow, ?_, v, hdi v, by rw [hrun']; exact hrun⟩))) hch
          refine hlb.imp id fun hb => ⟨hb, ?_⟩
          cases hop : x.2.2.op <;> try rfl
          rename_i im y
          cases im
          · rfl
          · have : y.ev (e.put x.2.2.dst v) = y.ev e := Opd.congr fun t ht => hat v t (by simp [readsOf, hop, LOp.tmps, ht])
            rw [hop] at hst
            simpa [strictOk, this] using hst

end
end Go.Pv
