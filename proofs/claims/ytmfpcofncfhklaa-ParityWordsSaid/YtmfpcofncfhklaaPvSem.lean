/- What a plain code comes to: total correctness, told of the machine. The rules of its constructs. -/
import Derived.Test.YtmfpcofncfhklaaPvOps
namespace Go.Pv
open Go Go.RowKit

inductive Out where
  | normal
  | jmp (j : Jmp)

/-- A plain code is a code's plain form. -/
def cmpR (P : Program) (G : List (Nat × List LV)) : Nat → LCode → Code → Prop := fun nt lc c => ∃ refs, compCode ⟨P, G, refs, nt⟩ c = lc

abbrev Globs := List (Nat × List LV)

structure Now (P : Program) (G : Globs) (w0 : Bs) (μ : Mu) (ι : Io) (δ : Nat → Prop) (s : St) (w : World) : Prop where
  inv : Inv (cmpR P G) w0 μ ι δ s w
  glob : ∀ x ∈ G, Rv μ ι w (.pimm x.2 0) (.pointer (some ⟨x.1, 0, none⟩))

structure Fr (P : Program) (G : Globs) (w0 : Bs) (μ : Mu) (ι : Io) (δ : Nat → Prop) (s : St) (w : World) (nt : Nat) (e : Env) (a : Act) : Prop where
  now : Now P G w0 μ ι δ s w
  re : Re μ ι w e a.tmps
  size : a.tmps.size = nt

def mark (r : Nat) : Deferred := { target := .collected r, args := #[] }

structure Went (μ : Mu) (ι : Io) (δ : Nat → Prop) (s : St) (w : World) (ds : List Deferred) (μ' : Mu) (ι' : Io) (δ' : Nat → Prop) (s' : St) (w' : World) (ds' : List Deferred) : Prop where
  ext : Ext μ ι δ w μ' ι' δ' w'
  kept : Kept μ s μ' s'
  marks : ∃ rs : List Nat, ds' = rs.map mark ++ ds ∧ rs.Nodup ∧ (∀ r ∈ rs, ¬ δ r) ∧ ∀ r, δ' r ↔ δ r ∨ r ∈ rs

theorem Went.refl {μ : Mu} {ι : Io} {δ : Nat → Prop} {s : St} {w : World} {ds : List Deferred} : Went μ ι δ s w ds μ ι δ s w ds :=
  ⟨Ext.refl _ _ _ _, Kept.refl _ _, [], rfl, List.nodup_nil, fun _ h => absurd h (List.not_mem_nil), fun r => by simp⟩

theorem Went.trans {μ μ' μ'' : Mu} {ι ι' ι'' : Io} {δ δ' δ'' : Nat → Prop} {s s' s'' : St} {w w' w'' : World} {ds ds' ds'' : List Deferred}
    (h : Went μ ι δ s w ds μ' ι' δ' s' w' ds') (k : Went μ' ι' δ' s' w' ds' μ'' ι'' δ'' s'' w'' ds'') : Went μ ι δ s w ds μ'' ι'' δ'' s'' w'' ds'' := by
  obtain ⟨r1, a1, b1, c1, d1⟩ := h.marks
  obtain ⟨r2, a2, b2, c2, d2⟩ := k.marks
  refine ⟨h.ext.trans k.ext, h.kept.trans k.kept, r2 ++ r1, by rw [a2, a1]; simp, ?_, fun r hr => ?_, fun r => ?_⟩
  · refine List.nodup_append.2 ⟨b2, b1, fun x hx y hy e => ?_⟩
    subst e
    exact c2 x hx ((d1 x).2 (.inr hy))
  · rcases List.mem_append.1 hr with hr | hr
    · exact fun hd => c2 r hr ((d1 r).2 (.inl hd))
    · exact c1 r hr
  · rw [d2, d1, List.mem_append]
    constructor
    · rintro ((h | h) | h) <;> simp [h]
    · rintro (h | h | h) <;> simp [h]

theorem Went.one {μ μ' : Mu} {ι ι' : Io} {δ : Nat → Prop} {s s' : St} {w w' : World} {ds : List Deferred} (x : Ext μ ι δ w μ' ι' δ w') (k : Kept μ s μ' s') : Went μ ι δ s w ds μ' ι' δ s' w' ds :=
  ⟨x, k, [], rfl, List.nodup_nil, fun _ h => absurd h (List.not_mem_nil), fun r => by simp⟩

section
variable {P : Program} {G : Globs}

theorem Now.ext {w0 : Bs} {μ μ' : Mu} {ι ι' : Io} {δ δ' : Nat → Prop} {s s' : St} {w w' : World} (h : Now P G w0 μ ι δ s w) (I : Inv (cmpR P G) w0 μ' ι' δ' s' w') (x : Ext μ ι δ w μ' ι' δ' w') : Now P G w0 μ' ι' δ' s' w' :=
  ⟨I, fun g hg => (h.glob g hg).ext x⟩

/-- Where a code has come to. -/
def Arr (P : Program) (m : Machine) (b : Frame) (a : Act) (k : List Item) (cs : List Frame) (w : World) : Out → Prop
  | .normal => Steps P m (lone (b.atR a k) cs w)
  | .jmp .ret => ∃ k', Steps P m (lone (b.atR a (.code .ret :: k')) cs w)
  | .jmp (.exit id) => ∃ k', exitTo id k' = exitTo id k ∧ Steps P m (lone (b.atR a (.code (.exit id) :: k')) cs w)

theorem Arr.head {m m' : Machine} {b : Frame} {a : Act} {k : List Item} {cs : List Frame} {w : World} {o : Out} (h : Steps P m m') (h' : Arr P m' b a k cs w o) : Arr P m b a k cs w o := by
  rcases o with _ | _ | id
  · exact Steps.trans h h'
  · obtain ⟨k', h'⟩ := h'; exact ⟨k', Steps.trans h h'⟩
  · obtain ⟨k', hk, h'⟩ := h'; exact ⟨k', hk, Steps.trans h h'⟩

/-- What a plain code comes to, from an environment and a small heap, in a frame that is (or is not) a round's. -/
def CodeOk (P : Program) (G : Globs) (rd : Bool) (nt : Nat) (lc : LCode) (e : Env) (s : St) (Q : Out → Env → St → Prop) : Prop :=
  ∀ (c : Code), cmpR P G nt lc c → ∀ (w0 : Bs) (μ : Mu) (ι : Io) (δ : Nat → Prop) (w : World) (b : Frame) (a : Act) (k : List Item) (cs : List Frame),
    b.roundOf.isSome = rd → Fr P G w0 μ ι δ s w nt e a →
    ∃ o e' s' μ' ι' δ' w' a', Q o e' s' ∧ Arr P (lone (b.atR a (.code c :: k)) cs w) b a' k cs w' o ∧ Fr P G w0 μ' ι' δ' s' w' nt e' a' ∧
      Went μ ι δ s w a.defers μ' ι' δ' s' w' a'.defers

theorem CodeOk.mono {rd : Bool} {nt : Nat} {lc : LCode} {e : Env} {s : St} {Q Q' : Out → Env → St → Prop} (h : CodeOk P G rd nt lc e s Q) (hq : ∀ o e s, Q o e s → Q' o e s) : CodeOk P G rd nt lc e s Q' := by
  intro c hc w0 μ ι δ w b a k cs hb hf
  obtain ⟨o, e', s', μ', ι', δ', w', a', q, r⟩ := h c hc w0 μ ι δ w b a k cs hb hf
  exact ⟨o, e', s', μ', ι', δ', w', a', hq _ _ _ q, r⟩

section
variable {c : Ctx}

theorem comp_skip {x : Code} (h : compCode c x = .skip) : x = .skip ∨ ∃ l, x = .label l := by
  cases x <;> simp only [compCode, reduceCtorEq] at h
  · exact .inl rfl
  · split at h <;> cases h
  · split at h <;> cases h
  · split at h <;> (try cases h); split at h <;> cases h
  · exact .inr ⟨_, rfl⟩
theorem comp_seq {x : Code} {a b : LCode} (h : compCode c x = .seq a b) : ∃ y z, x = .seq y z ∧ compCode c y = a ∧ compCode c z = b := by
  cases x <;> simp only [compCode, reduceCtorEq] at h
  · split at h <;> cases h
  · cases h; exact ⟨_, _, rfl, rfl, rfl⟩
  · split at h <;> cases h
  · split at h <;> (try cases h); split at h <;> cases h
theorem comp_cond {x : Code} {y : Opd} {a b : LCode} (h : compCode c x = .cond y a b) : ∃ t p q, x = .cond t p q ∧ opd c t = some y ∧ compCode c p = a ∧ compCode c q = b := by
  cases x <;> simp only [compCode, reduceCtorEq] at h
  · split at h <;> cases h
  · split at h
    · rename_i hy; cases h; exact ⟨_, _, _, rfl, hy, rfl, rfl⟩
    · cases h
  · split at h <;> (try cases h); split at h <;> cases h
theorem comp_block {x : Code} {id : Nat} {a : LCode} (h : compCode c x = .block id a) : ∃ y, x = .block id y ∧ compCode c y = a := by
  cases x <;> simp only [compCode, reduceCtorEq] at h
  · split at h <;> cases h
  · split at h <;> cases h
  · cases h; exact ⟨_, rfl, rfl⟩
  · split at h <;> (try cases h); split at h <;> cases h
theorem comp_loop {x : Code} {a : LCode} (h : compCode c x = .loop a) : ∃ y, x = .loop y ∧ compCode c y = a := by
  cases x <;> simp only [compCode, reduceCtorEq] at h
  · split at h <;> cases h
  · split at h <;> cases h
  · cases h; exact ⟨_, rfl, rfl⟩
  · split at h <;> (try cases h); split at h <;> cases h
theorem comp_scope {x : Code} {a : LCode} (h : compCode c x = .scope a) : ∃ y, x = .scope y ∧ compCode c y = a := by
  cases x <;> simp only [compCode, reduceCtorEq] at h
  · split at h <;> cases h
  · split at h <;> cases h
  · split at h <;> (try cases h); split at h <;> cases h
  · cases h; exact ⟨_, rfl, rfl⟩
theorem comp_exit {x : Code} {id : Nat} (h : compCode c x = .exit id) : x = .exit id := by
  cases x <;> simp only [compCode, reduceCtorEq] at h
  · split at h <;> cases h
  · split at h <;> cases h
  · split at h <;> (try cases h); split at h <;> cases h
  · cases h; rfl
theorem comp_ret {x : Code} (h : compCode c x = .ret) : x = .ret := by
  cases x <;> simp only [compCode, reduceCtorEq] at h
  · split at h <;> cases h
  · split at h <;> cases h
  · split at h <;> (try cases h); split at h <;> cases h
  · rfl
end

section
variable {rd : Bool} {nt : Nat} {e : Env} {s : St} {Q : Out → Env → St → Prop}

theorem ok_skip (h : Q .normal e s) : CodeOk P G rd nt .skip e s Q := by
  rintro c ⟨refs, hc⟩ w0 μ ι δ w b a k cs hb hf
  refine ⟨.normal, e, s, μ, ι, δ, w, a, h, ?_, hf, Went.refl⟩
  rcases comp_skip hc with rfl | ⟨l, rfl⟩
  · exact .one stepR_skip
  · exact .one stepR_label

theorem ok_exit {id : Nat} (h : Q (.jmp (.exit id)) e s) : CodeOk P G rd nt (.exit id) e s Q := by
  rintro c ⟨refs, hc⟩ w0 μ ι δ w b a k cs hb hf
  obtain rfl := comp_exit hc
  exact ⟨.jmp (.exit id), e, s, μ, ι, δ, w, a, h, ⟨k, rfl, .refl _ _⟩, hf, Went.refl⟩

theorem ok_ret (h : Q (.jmp .ret) e s) : CodeOk P G rd nt .ret e s Q := by
  rintro c ⟨refs, hc⟩ w0 μ ι δ w b a k cs hb hf
  obtain rfl := comp_ret hc
  exact ⟨.jmp .ret, e, s, μ, ι, δ, w, a, h, ⟨k, .refl _ _⟩, hf, Went.refl⟩

/-- 'Q' behind a part: on to the next, or on with the jump. -/
def Thn (R : Env → St → Prop) (Q : Out → Env → St → Prop) : Out → Env → St → Prop
  | .normal, e, s => R e s
  | .jmp j, e, s => Q (.jmp j) e s

/-- An item that a jump passes. -/
theorem exitTo_code (c : Code) (id : Nat) (k : List Item) : exitTo id (.code c :: k) = exitTo id k := rfl

theorem ok_seq {x y : LCode} (h : CodeOk P G rd nt x e s (Thn (fun e s => CodeOk P G rd nt y e s Q) Q)) : CodeOk P G rd nt (.seq x y) e s Q := by
  rintro c ⟨refs, hc⟩ w0 μ ι δ w b a k cs hb hf
  obtain ⟨c1, c2, rfl, h1, h2⟩ := comp_seq hc
  obtain ⟨o, e1, s1, μ1, ι1, δ1, w1, a1, q, har, hf1, hw⟩ := h c1 ⟨refs, h1⟩ w0 μ ι δ w b a (.code c2 :: k) cs hb hf
  rcases o with _ | _ | id
  · obtain ⟨o, e2, s2, μ2, ι2, δ2, w2, a2, q2, har2, hf2, hw2⟩ := q c2 ⟨refs, h2⟩ w0 μ1 ι1 δ1 w1 b a1 k cs hb hf1
    exact ⟨o, e2, s2, μ2, ι2, δ2, w2, a2, q2, Arr.head (.head stepR_seq har) har2, hf2, hw.trans hw2⟩
  · obtain ⟨k', har⟩ := har
    exact ⟨_, e1, s1, μ1, ι1, δ1, w1, a1, q, ⟨k', .head stepR_seq har⟩, hf1, hw⟩
  · obtain ⟨k', hk, har⟩ := har
    exact ⟨_, e1, s1, μ1, ι1, δ1, w1, a1, q, ⟨k', hk, .head stepR_seq har⟩, hf1, hw⟩

theorem opd_rel {c : Ctx} {w0 : Bs} {μ : Mu} {ι : Io} {δ : Nat → Prop} {w : World} {a : Act} (_hP : c.P = P) (hG : c.globs = G) (hN : Now P G w0 μ ι δ s w) {x : Operand} {y : Opd} (h : opd c x = some y)
    (hr : ∀ t, x = .tmp t → Rv μ ι w (e.at t) (a.tmps.getD t undef)) : Rv μ ι w (y.ev e) (a.eval x) := by
  cases x with
  | tmp t => cases h; have := hr t rfl; simpa [Act.eval] using this
  | const v =>
    simp only [opd, Option.map_eq_some_iff] at h
    obtain ⟨z, hz, rfl⟩ := h
    exact rv_constC hz
  | global g =>
    simp only [opd, Option.map_eq_some_iff] at h
    obtain ⟨z, hz, rfl⟩ := h
    obtain ⟨h1, h2⟩ := List.find?_eq_some_iff_append.1 hz
    have hm : z ∈ G := by rw [← hG]; exact List.mem_of_find?_eq_some hz
    have := hN.glob z hm
    have hg : z.1 = g := by simpa using h1
    rw [hg] at this
    exact this
  | func f => cases h; exact .fn rfl rfl (fun i hi => absurd hi (Nat.not_lt_zero _)) (fun i hi => absurd hi (Nat.not_lt_zero _))

theorem ok_cond {y : Opd} {t : Bool} {p q : LCode} (ht : y.ev e = .bool t) (h : CodeOk P G rd nt (if t then p else q) e s Q) : CodeOk P G rd nt (.cond y p q) e s Q := by
  rintro c ⟨refs, hc⟩ w0 μ ι δ w b a k cs hb hf
  obtain ⟨x, c1, c2, rfl, hx, h1, h2⟩ := comp_cond hc
  have hv := opd_rel (c := ⟨P, G, refs, nt⟩) rfl rfl hf.now hx (fun t _ => hf.re t)
  rw [ht] at hv
  have hev : a.eval x = .bool t := by generalize a.eval x = z at hv; cases hv; rfl
  obtain ⟨o, e1, s1, μ1, ι1, δ1, w1, a1, q, har, hf1, hw⟩ := h (if t then c1 else c2) ⟨refs, by cases t <;> simpa⟩ w0 μ ι δ w b a k cs hb hf
  exact ⟨o, e1, s1, μ1, ι1, δ1, w1, a1, q, Arr.head (.one (stepR_cond hev)) har, hf1, hw⟩

theorem ok_scope {x : LCode} (h : CodeOk P G rd nt x e s Q) : CodeOk P G rd nt (.scope x) e s Q := by
  rintro c ⟨refs, hc⟩ w0 μ ι δ w b a k cs hb hf
  obtain ⟨c1, rfl, h1⟩ := comp_scope hc
  obtain ⟨o, e1, s1, μ1, ι1, δ1, w1, a1, q, har, hf1, hw⟩ := h c1 ⟨refs, h1⟩ w0 μ ι δ w b a (.inScope c1 :: k) cs hb hf
  have h0 : step P (lone (b.atR a (.code (.scope c1) :: k)) cs w) = .next (lone (b.atR a (.code c1 :: .inScope c1 :: k)) cs w) := step_lone_go (by simp [stepG, stepG.exec, Frame.atR])
  rcases o with _ | _ | id
  · refine ⟨_, e1, s1, μ1, ι1, δ1, w1, a1, q, Steps.head h0 (Steps.trans har (.one ?_)), hf1, hw⟩
    exact step_lone_go (by simp [stepG, stepG.exec, Frame.atR])
  · obtain ⟨k', har⟩ := har
    exact ⟨_, e1, s1, μ1, ι1, δ1, w1, a1, q, ⟨k', .head h0 har⟩, hf1, hw⟩
  · obtain ⟨k', hk, har⟩ := har
    exact ⟨_, e1, s1, μ1, ι1, δ1, w1, a1, q, ⟨k', hk, .head h0 har⟩, hf1, hw⟩

/-- 'Q' behind a block: an exit to it ends it. -/
def Blkd (id : Nat) (Q : Out → Env → St → Prop) : Out → Env → St → Prop
  | .jmp (.exit id'), e, s => if id' = id then Q .normal e s else Q (.jmp (.exit id')) e s
  | o, e, s => Q o e s

theorem ok_block {id : Nat} {x : LCode} (h : CodeOk P G rd nt x e s (Blkd id Q)) : CodeOk P G rd nt (.block id x) e s Q := by
  rintro c ⟨refs, hc⟩ w0 μ ι δ w b a k cs hb hf
  obtain ⟨c1, rfl, h1⟩ := comp_block hc
  obtain ⟨o, e1, s1, μ1, ι1, δ1, w1, a1, q, har, hf1, hw⟩ := h c1 ⟨refs, h1⟩ w0 μ ι δ w b a (.inBlock id :: k) cs hb hf
  rcases o with _ | _ | id'
  · exact ⟨_, e1, s1, μ1, ι1, δ1, w1, a1, q, Steps.head stepR_block (Steps.trans har (.one stepR_inBlock)), hf1, hw⟩
  · obtain ⟨k', har⟩ := har
    exact ⟨_, e1, s1, μ1, ι1, δ1, w1, a1, q, ⟨k', .head stepR_block har⟩, hf1, hw⟩
  · obtain ⟨k', hk, har⟩ := har
    simp only [Blkd] at q
    by_cases hid : id' = id
    · rw [if_pos hid] at q
      subst hid
      refine ⟨.normal, e1, s1, μ1, ι1, δ1, w1, a1, q, Steps.head stepR_block (Steps.trans har (.one (stepR_exit ?_))), hf1, hw⟩
      rw [hk]; simp [exitTo]
    · rw [if_neg hid] at q
      refine ⟨_, e1, s1, μ1, ι1, δ1, w1, a1, q, ⟨k', ?_, .head stepR_block har⟩, hf1, hw⟩
      rw [hk]
      simp [exitTo, Ne.symm hid]

/-- A loop: one round, and then the loop again. -/
theorem ok_loop_inv {x : LCode} (I : Nat → Env → St → Prop) (hI : ∀ n e s, I n e s → CodeOk P G rd nt x e s (Thn (fun e s => ∃ m, m < n ∧ I m e s) Q)) (n : Nat) (h : I n e s) : CodeOk P G rd nt (.loop x) e s Q := by
  rintro c ⟨refs, hc⟩ w0 μ ι δ w b a k cs hb hf
  obtain ⟨c1, rfl, h1⟩ := comp_loop hc
  have key : ∀ n e s, I n e s → ∀ (μ : Mu) (ι : Io) (δ : Nat → Prop) (w : World) (a : Act), Fr P G w0 μ ι δ s w nt e a → ∃ o e' s' μ' ι' δ' w' a', Q o e' s' ∧ o ≠ .normal ∧
      Arr P (lone (b.atR a (.inLoop c1 :: k)) cs w) b a' k cs w' o ∧ Fr P G w0 μ' ι' δ' s' w' nt e' a' ∧ Went μ ι δ s w a.defers μ' ι' δ' s' w' a'.defers := by
    intro n
    induction n using Nat.strongRecOn with
    | ind n ih =>
      intro e s hI' μ ι δ w a hf
      obtain ⟨o, e1, s1, μ1, ι1, δ1, w1, a1, q, har, hf1, hw⟩ := hI n e s hI' c1 ⟨refs, h1⟩ w0 μ ι δ w b a (.inLoop c1 :: k) cs hb hf
      rcases o with _ | _ | id
      · obtain ⟨m, hm, him⟩ := q
        obtain ⟨o, e2, s2, μ2, ι2, δ2, w2, a2, q2, hne, har2, hf2, hw2⟩ := ih m hm e1 s1 him μ1 ι1 δ1 w1 a1 hf1
        exact ⟨o, e2, s2, μ2, ι2, δ2, w2, a2, q2, hne, Arr.head (.head stepR_inLoop har) har2, hf2, hw.trans hw2⟩
      · obtain ⟨k', har⟩ := har
        exact ⟨_, e1, s1, μ1, ι1, δ1, w1, a1, q, (by simp), ⟨k', .head stepR_inLoop har⟩, hf1, hw⟩
      · obtain ⟨k', hk, har⟩ := har
        exact ⟨_, e1, s1, μ1, ι1, δ1, w1, a1, q, (by simp), ⟨k', hk, .head stepR_inLoop har⟩, hf1, hw⟩
  obtain ⟨o, e1, s1, μ1, ι1, δ1, w1, a1, q, har, hf1, hw⟩ := hI n e s h c1 ⟨refs, h1⟩ w0 μ ι δ w b a (.inLoop c1 :: k) cs hb hf
  rcases o with _ | _ | id
  · obtain ⟨m, hm, him⟩ := q
    obtain ⟨o, e2, s2, μ2, ι2, δ2, w2, a2, q2, hne, har2, hf2, hw2⟩ := key m e1 s1 him μ1 ι1 δ1 w1 a1 hf1
    exact ⟨o, e2, s2, μ2, ι2, δ2, w2, a2, q2, Arr.head (.head stepR_loop har) har2, hf2, hw.trans hw2⟩
  · obtain ⟨k', har⟩ := har
    exact ⟨_, e1, s1, μ1, ι1, δ1, w1, a1, q, ⟨k', .head stepR_loop har⟩, hf1, hw⟩
  · obtain ⟨k', hk, har⟩ := har
    exact ⟨_, e1, s1, μ1, ι1, δ1, w1, a1, q, ⟨k', hk, .head stepR_loop har⟩, hf1, hw⟩

end
end
end Go.Pv
