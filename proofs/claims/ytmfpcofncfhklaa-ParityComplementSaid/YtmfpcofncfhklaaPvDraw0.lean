/- Drawn regions: what the static checks say; how a run depends on the environment and the small heap. -/
import Derived.Test.YtmfpcofncfhklaaPvChain
set_option linter.unusedSimpArgs false
set_option linter.unusedVariables false
namespace Go.Pv
open Go Go.RowKit

section congr
variable {e e' : Env} {s : St}

theorem Opd.congr {x : Opd} (h : ∀ t ∈ x.tmps, e.at t = e'.at t) : x.ev e = x.ev e' := by
  cases x with
  | t i => exact h i (by simp [Opd.tmps])
  | c v => rfl

theorem opdO_congr {x : Option Opd} (h : ∀ t ∈ optTmps x, e.at t = e'.at t) : x.map (·.ev e) = x.map (·.ev e') := by
  cases x with
  | none => rfl
  | some x => simp only [Option.map_some]; rw [Opd.congr h]

theorem opds_congr {l : List Opd} (h : ∀ t ∈ l.flatMap (·.tmps), e.at t = e'.at t) : l.map (·.ev e) = l.map (·.ev e') :=
  List.map_congr_left fun x hx => Opd.congr fun t ht => h t (List.mem_flatMap.2 ⟨x, hx, ht⟩)

theorem parts_congr {l : List (Nat × Nat × Opd)} (h : ∀ t ∈ l.flatMap (fun q => q.2.2.tmps), e.at t = e'.at t) : evParts e l = evParts e' l :=
  List.map_congr_left fun x hx => by rw [Opd.congr fun t ht => h t (List.mem_flatMap.2 ⟨x, hx, ht⟩)]

theorem run_congr (lo : LOp) (h : ∀ t ∈ lo.tmps, e.at t = e'.at t) : lo.run e s = lo.run e' s := by
  cases lo <;> simp only [LOp.tmps, List.mem_append] at h <;> try (rfl; done)
  case box im x => cases im <;> simp only [LOp.run, Opd.congr h]
  case pick a b c => simp only [LOp.run, Opd.congr (x := a) fun t ht => h t (.inl (.inl ht)), Opd.congr (x := b) fun t ht => h t (.inl (.inr ht)), Opd.congr (x := c) fun t ht => h t (.inr ht)]
  case build z ps => simp only [LOp.run, parts_congr h]
  case bslice a b z ps => simp only [LOp.run, parts_congr h]
  case minmax m xs => simp only [LOp.run, opds_congr h]
  case mkfn f a b => simp only [LOp.run, opds_congr (l := a) fun t ht => h t (.inl ht), opds_congr (l := b) fun t ht => h t (.inr ht)]
  case slice z x a b => simp only [LOp.run, Opd.congr (x := x) fun t ht => h t (.inl (.inl ht)), opdO_congr (x := a) fun t ht => h t (.inl (.inr ht)), opdO_congr (x := b) fun t ht => h t (.inr ht)]
  case sliceStr x a b => simp only [LOp.run, Opd.congr (x := x) fun t ht => h t (.inl (.inl ht)), opdO_congr (x := a) fun t ht => h t (.inl (.inr ht)), opdO_congr (x := b) fun t ht => h t (.inr ht)]
  case sliceZ x a b d => simp only [LOp.run, Opd.congr (x := x) fun t ht => h t (.inl (.inl (.inl ht))), Opd.congr (x := a) fun t ht => h t (.inl (.inl (.inr ht))), Opd.congr (x := b) fun t ht => h t (.inl (.inr ht)), Opd.congr (x := d) fun t ht => h t (.inr ht)]
  case mupd kd a b d => simp only [LOp.run, Opd.congr (x := a) fun t ht => h t (.inl (.inl ht)), Opd.congr (x := b) fun t ht => h t (.inl (.inr ht)), Opd.congr (x := d) fun t ht => h t (.inr ht)]
  case mkmap x =>
    cases x with
    | none => rfl
    | some x => simp only [LOp.run, Opd.congr (x := x) h]
  all_goals first
    | (simp only [LOp.run, Opd.congr h]; done)
    | (rename_i a b; simp only [LOp.run, Opd.congr (x := a) fun t ht => h t (.inl ht), Opd.congr (x := b) fun t ht => h t (.inr ht)]; done)

theorem wantedG_congr {g : Option (Nat × Bool)} (h : ∀ d want, g = some (d, want) → e.at d = e'.at d) : wantedG g e = wantedG g e' := by
  cases g with
  | none => rfl
  | some p => simp only [wantedG, h p.1 p.2 rfl]

end congr

section pure
variable {e : Env} {s s1 s' : St} {v : LV}

theorem look_same {lo : LOp} (hl : looksL lo = true) (h : lo.run e s = some (v, s1)) : s1 = s := by
  cases lo <;> (try (cases hl; done)) <;> simp only [LOp.run] at h <;>
    repeat' (first | (cases h; rfl) | (cases h; done) | (obtain ⟨_, _, h⟩ := bind_some h) | (split at h))

theorem look_pure {lo : LOp} (hl : looksL lo = true) (hn : isLoadL lo = false) (h : lo.run e s = some (v, s)) : lo.run e s' = some (v, s') := by
  cases lo <;> (try (cases hl; done)) <;> (try (cases hn; done)) <;> simp only [LOp.run] at h ⊢
  all_goals repeat' (first | (cases h; rfl) | (cases h; done) | (rename_i hh; cases h; exact if_pos hh) | (rename_i hh _ _; cases h; exact if_pos hh) | (rename_i hh _ _ _; cases h; exact if_pos hh) | (obtain ⟨u, hu, h⟩ := bind_some h; simp only [hu, Option.bind_eq_bind, Option.bind_some]) | (split at h))

theorem box_pure {lo : LOp} (hl : isBoxIm lo = true) (hs : strictOk true lo e = true) (h : lo.run e s = some (v, s1)) : s1 = s ∧ ∀ s', lo.run e s' = some (v, s') := by
  cases lo <;> (try (cases hl; done))
  rename_i im x
  cases im
  · cases hl
  · simp only [strictOk, Bool.not_true, Bool.false_or] at hs
    have hf : ∀ s : St, frz frzDepth (x.ev e) s = some (x.ev e, s) := fun s => by unfold frzDepth; simp [frz, hs]
    simp only [LOp.run, hf] at h ⊢
    simp only [Option.bind_eq_bind, Option.bind_some] at h ⊢
    cases hc : cells? (x.ev e) with
    | none => rw [hc] at h; cases h
    | some cs =>
      rw [hc] at h
      simp only [Option.bind_some] at h ⊢
      split at h
      · cases h
      · rename_i h0
        cases h
        exact ⟨rfl, fun s' => by rw [if_neg h0]⟩

theorem row_shape {lo : LOp} (hl : isRow lo = true) (h : lo.run e s = some (v, s1)) : ∃ cs, s1 = s.new (.cells .mut cs) := by
  cases lo <;> (try (cases hl; done))
  case box im x =>
    cases im
    · simp only [LOp.run] at h
      obtain ⟨cs, _, h⟩ := bind_some h
      cases h; exact ⟨_, rfl⟩
    · cases hl
  case alloc z => cases h; exact ⟨_, rfl⟩
  case bslice =>
    simp only [LOp.run] at h
    obtain ⟨cs, _, h⟩ := bind_some h
    cases h; exact ⟨_, rfl⟩
  case mkslice =>
    simp only [LOp.run] at h
    split at h
    · split at h
      · cases h; exact ⟨_, rfl⟩
      · cases h
    · cases h
end pure

section anc
variable {ops : Array Oper}

theorem ancs_fold (acc : List Nat) (b : Nat) : ∀ (l : List Nat) (x : Nat), (l.foldl (fun s j => s ||| 2 ^ j ||| acc.getD j 0) x).testBit b = true → x.testBit b = true ∨ ∃ j ∈ l, j = b ∨ (acc.getD j 0).testBit b = true := by
  intro l
  induction l with
  | nil => intro x h; exact .inl h
  | cons j l ih =>
    intro x h
    rw [List.foldl_cons] at h
    rcases ih _ h with h | ⟨j', hj, h⟩
    · simp only [Nat.testBit_or, Nat.testBit_two_pow, Bool.or_eq_true, decide_eq_true_eq] at h
      rcases h with (h | h) | h
      · exact .inl h
      · exact .inr ⟨j, by simp, .inl h⟩
      · exact .inr ⟨j, by simp, .inr h⟩
    · exact .inr ⟨j', List.mem_cons_of_mem _ hj, h⟩

theorem ancs_spec : ∀ (os : List Oper) (acc : List Nat), (∀ i, i < acc.length → (ancs os acc).getD i 0 = acc.getD i 0) ∧
    ∀ k o, os[k]? = some o → ∀ b, ((ancs os acc).getD (acc.length + k) 0).testBit b = true → ∃ j ∈ depsOf o, j = b ∨ (j < acc.length + k ∧ ((ancs os acc).getD j 0).testBit b = true) := by
  intro os
  induction os with
  | nil => intro acc; exact ⟨fun i _ => rfl, fun k o h => by simp at h⟩
  | cons o os ih =>
    intro acc
    simp only [ancs]
    obtain ⟨h1, h2⟩ := ih (acc ++ [(depsOf o).foldl (fun s j => s ||| 2 ^ j ||| acc.getD j 0) 0])
    have hpre : ∀ i, i < acc.length → (acc ++ [(depsOf o).foldl (fun s j => s ||| 2 ^ j ||| acc.getD j 0) 0]).getD i 0 = acc.getD i 0 := fun i hi => by
      simp [List.getD_eq_getElem?_getD, List.getElem?_append_left hi]
    refine ⟨fun i hi => by rw [h1 i (by simp; omega), hpre i hi], fun k o' ho b hb => ?_⟩
    cases k with
    | zero =>
      obtain rfl : o = o' := by simpa using ho
      rw [Nat.add_zero, h1 _ (by simp)] at hb
      have : (acc ++ [(depsOf o).foldl (fun s j => s ||| 2 ^ j ||| acc.getD j 0) 0]).getD acc.length 0 = (depsOf o).foldl (fun s j => s ||| 2 ^ j ||| acc.getD j 0) 0 := by simp [List.getD_eq_getElem?_getD]
      rw [this] at hb
      rcases ancs_fold acc b _ _ hb with hb | ⟨j, hj, hb⟩
      · simp at hb
      · refine ⟨j, hj, ?_⟩
        rcases hb with rfl | hb
        · exact .inl rfl
        · have hjl : j < acc.length := by
            by_cases hlt : j < acc.length
            · exact hlt
            · rw [List.getD_eq_getElem?_getD, List.getElem?_eq_none (by omega)] at hb
              simp at hb
          exact .inr ⟨by omega, by rw [h1 j (by simp; omega), hpre j hjl]; exact hb⟩
    | succ k =>
      have := h2 k o' (by simpa using ho) b (by simpa [Nat.add_assoc, Nat.add_comm 1 k] using hb)
      obtain ⟨j, hj, hb'⟩ := this
      refine ⟨j, hj, hb'.imp id (fun h => ⟨by have := h.1; simp at this; omega, h.2⟩)⟩

/-- What stands ahead is listed. -/
theorem anc_listed {L : Nat → Prop} (hL : ∀ k, L k → ∀ o, ops[k]? = some o → ∀ d ∈ depsOf o, L d) : ∀ (i : Nat) (o : Oper), ops[i]? = some o → (∀ d ∈ depsOf o, L d) → ∀ b, ((ancs ops.toList []).getD i 0).testBit b = true → L b := by
  intro i
  induction i using Nat.strongRecOn with
  | ind i ih =>
    intro o ho hd b hb
    obtain ⟨j, hj, h⟩ := (ancs_spec ops.toList []).2 i o (by simpa using ho) b (by simpa using hb)
    rcases h with rfl | ⟨hlt, h⟩
    · exact hd _ hj
    · have hlt' : j < i := by simpa using hlt
      have hoj : ∃ oj, ops[j]? = some oj := by
        have : i < ops.size := (Array.getElem?_eq_some_iff.1 ho).1
        exact ⟨ops[j], by simp⟩
      obtain ⟨oj, hoj⟩ := hoj
      exact ih j hlt' oj hoj (hL j (hd j hj) oj hoj) b h
end anc

theorem drawChk_at {ops : Array Oper} {anc : List Nat} {base : List DOp} : ∀ (l pre : List DOp), drawChk ops anc base pre l = true → ∀ p x r, l = p ++ x :: r → drawChk1 ops anc base (pre ++ p) x r = true := by
  intro l
  induction l with
  | nil => intro pre h p x r e; simp at e
  | cons y l ih =>
    intro pre h p x r e
    simp only [drawChk, Bool.and_eq_true] at h
    cases p with
    | nil =>
      simp only [List.nil_append, List.cons.injEq] at e
      obtain ⟨rfl, rfl⟩ := e
      simpa using h.1
    | cons z p =>
      simp only [List.cons_append, List.cons.injEq] at e
      obtain ⟨rfl, rfl⟩ := e
      have := ih (pre ++ [y]) h.2 p x r rfl
      simpa using this

/-- What is known of the operations of a drawn region. -/
structure Known (c : Ctx) (ops : Array Oper) (base : List DOp) : Prop where
  at_ : ∀ x ∈ base, ops[x.1]? = some x.2.1 ∧ compOper c ops x.2.1 = some x.2.2
  len : base.length = ops.size
  nd : (base.map (·.1)).Nodup
  all : ∀ i, i < ops.size → ∃ x ∈ base, x.1 = i
  deps : ∀ p x r, base = p ++ x :: r → ∀ d ∈ depsOf x.2.1, ∃ y ∈ p, y.1 = d
  eff : ∀ p x r, base = p ++ x :: r → isFloat x.2.2.op = false → ∀ y ∈ r, ((ancs ops.toList []).getD y.1 0).testBit x.1 = true
  reads : ∀ x ∈ base, ∀ y ∈ base, ∀ d, y.2.2.dst = some d → d ∈ readsOf ops x → y.1 ≠ x.1 ∧ ((ancs ops.toList []).getD x.1 0).testBit y.1 = true
  dst : ∀ x ∈ base, ∀ y ∈ base, ∀ d, x.2.2.dst = some d → y.2.2.dst = some d → x.1 = y.1
  later : ∀ p x r, base = p ++ x :: r → ∀ y ∈ p, ∀ d, x.2.2.dst = some d → d ∉ readsOf ops y
  ldst : ∀ x ∈ base, isLoadL x.2.2.op = true → ∃ d, x.2.2.dst = some d
  makes : ∀ x ∈ base, isRow x.2.2.op = true → Op.makes x.2.1.op = true

theorem compDraw_known {c : Ctx} {ops : Array Oper} {l : List LOper} (h : compDraw c ops = some l) : ∃ base, Known c ops base ∧ l = drawn (ancs ops.toList []) [] base := by
  unfold compDraw at h
  dsimp only at h
  split at h
  · cases h
  · rename_i base hb
    split at h
    · rename_i hc
      obtain ⟨h1, h2, h3, h4⟩ := hc
      cases h
      obtain ⟨hl, hg⟩ := mapM_get hb
      have hat : ∀ x ∈ base, ops[x.1]? = some x.2.1 ∧ compOper c ops x.2.1 = some x.2.2 := by
        intro x hx
        obtain ⟨j, hj, rfl⟩ := List.getElem_of_mem hx
        obtain ⟨y, hy, hf⟩ := hg j (by rw [← hl]; exact hj)
        have : base[j] = y := by simpa [hj] using hy
        rw [this]
        obtain ⟨o, ho, hf⟩ := bind_some hf
        obtain ⟨lo, hlo, hf⟩ := bind_some hf
        cases hf
        exact ⟨ho, hlo⟩
      have hck : ∀ p x r, base = p ++ x :: r → drawChk1 ops (ancs ops.toList []) base p x r = true := fun p x r e => by
        have := drawChk_at base [] h4 p x r e
        simpa using this
      have hsplit : ∀ x ∈ base, ∃ p r, base = p ++ x :: r := fun x hx => List.append_of_mem hx
      simp only [drawChk1, Bool.and_eq_true] at hck
      refine ⟨base, ⟨hat, h1, h2, ?_, ?_, ?_, ?_, ?_, ?_, ?_, ?_⟩, rfl⟩
      · intro i hi
        have := List.all_eq_true.1 h3 i (by simpa using hi)
        simp only [List.contains_eq_mem, List.mem_map, decide_eq_true_eq] at this
        exact this
      · intro p x r e d hd
        obtain ⟨⟨⟨⟨⟨⟨a1, a2⟩, a3⟩, a4⟩, a5⟩, a6⟩, a7⟩ := hck p x r e
        have := List.all_eq_true.1 a1 d hd
        simpa using this
      · intro p x r e hfl y hy
        obtain ⟨⟨⟨⟨⟨⟨a1, a2⟩, a3⟩, a4⟩, a5⟩, a6⟩, a7⟩ := hck p x r e
        rw [hfl, Bool.false_or] at a2
        exact List.all_eq_true.1 a2 y hy
      · intro x hx y hy d hd hr
        obtain ⟨p, r, e⟩ := hsplit x hx
        obtain ⟨⟨⟨⟨⟨⟨a1, a2⟩, a3⟩, a4⟩, a5⟩, a6⟩, a7⟩ := hck p x r e
        have := List.all_eq_true.1 a3 y hy
        rw [hd] at this
        simpa [hr] using this
      · intro x hx y hy d hd hd'
        obtain ⟨p, r, e⟩ := hsplit x hx
        obtain ⟨⟨⟨⟨⟨⟨a1, a2⟩, a3⟩, a4⟩, a5⟩, a6⟩, a7⟩ := hck p x r e
        have := List.all_eq_true.1 a4 y hy
        rw [hd'] at this
        simpa [hd] using this
      · intro p x r e y hy d hd
        obtain ⟨⟨⟨⟨⟨⟨a1, a2⟩, a3⟩, a4⟩, a5⟩, a6⟩, a7⟩ := hck p x r e
        have := List.all_eq_true.1 a5 y hy
        rw [hd] at this
        simpa using this
      · intro x hx hl
        obtain ⟨p, r, e⟩ := hsplit x hx
        obtain ⟨⟨⟨⟨⟨⟨a1, a2⟩, a3⟩, a4⟩, a5⟩, a6⟩, a7⟩ := hck p x r e
        rw [hl] at a6
        simpa [Option.isSome_iff_exists] using a6
      · intro x hx hl
        obtain ⟨p, r, e⟩ := hsplit x hx
        obtain ⟨⟨⟨⟨⟨⟨a1, a2⟩, a3⟩, a4⟩, a5⟩, a6⟩, a7⟩ := hck p x r e
        rw [hl] at a7
        simpa using a7
    · cases h
end Go.Pv
