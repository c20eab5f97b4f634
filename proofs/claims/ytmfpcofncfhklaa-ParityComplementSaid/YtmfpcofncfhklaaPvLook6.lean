/- Operations that only look: slices, lengths, and the theorem. -/
import Derived.Test.YtmfpcofncfhklaaPvLook5
set_option linter.unusedSimpArgs false
namespace Go.Pv
open Go Go.RowKit

section
variable {w : World} {w0 : Bs} {μ : Mu} {ι : Io} {δ : Nat → Prop} {s s' : St} {cmp : Nat → LCode → Code → Prop} {c : Ctx} {e : Env} {a : Act} {o : Oper} {v : LV}

theorem look_slice {t : TypeId} {x : Operand} {lo hi : Option Operand} (ho : o.op = .slice t x lo hi none) (hρ : Ho μ ι w c e a o) {el : TypeId} (hu : c.P.underlying t = some (.slice el)) {n : Nat} (hn : szOf c.P el = some n)
    {y : Opd} {llo lhi : Option Opd} (hy : opd c x = some y) (hlo : opdO c lo = some llo) (hhi : opdO c hi = some lhi) (hr : (LOp.slice n y llo lhi).run e s = some (v, s')) : s' = s ∧ Looks μ ι w c.P a o v := by
  have hx := hρ x y (by simp [ho, Op.operands]) hy
  have hρl : ∀ x y, lo = some x → opd c x = some y → Rv μ ι w (y.ev e) (a.eval x) := fun x y h hy => hρ x y (by subst h; simp [ho, Op.operands]) hy
  have hρh : ∀ x y, hi = some x → opd c x = some y → Rv μ ι w (y.ev e) (a.eval x) := fun x y h hy => hρ x y (by subst h; simp [ho, Op.operands]) hy
  unfold LOp.run at hr
  dsimp only at hr
  generalize y.ev e = lv at *
  generalize hav : a.eval x = av at *
  have hx' := hx
  cases hx <;> try (cases hr; done)
  case nils =>
    obtain ⟨h, h1, hr⟩ := bind_some hr
    obtain ⟨l, h2, hr⟩ := bind_some hr
    split at hr
    · rename_i h0
      cases hr
      have hb1 := bndOf_rel (μ := μ) (ι := ι) (w := w) hhi hρh h1
      have hb2 := bndOf_rel (μ := μ) (ι := ι) (w := w) hlo hρl h2
      obtain ⟨hrun, hle1, hle2⟩ := sliceBounds_run (c := c) (w := w) (isS := true) (cap := 0) hb1 (Nat.le_refl _) hb2
      obtain ⟨rfl, rfl⟩ := h0
      refine ⟨rfl, _, by simp only [execOp, ho, hav, Instr.sliceAt, Instr.slice, Sem.run_bind, ru hu, Result.andThen_ok, Option.map_none, hrun, rsz hn]; rfl, ?_⟩
      simp only [Nat.sub_zero, if_true]
      exact .nils
    · cases hr
  case zs =>
    obtain ⟨h, h1, hr⟩ := bind_some hr
    obtain ⟨l, h2, hr⟩ := bind_some hr
    split at hr
    · rename_i h0
      cases hr
      have hb1 := bndOf_rel (μ := μ) (ι := ι) (w := w) hhi hρh h1
      have hb2 := bndOf_rel (μ := μ) (ι := ι) (w := w) hlo hρl h2
      obtain ⟨hrun, hle1, hle2⟩ := sliceBounds_run (c := c) (w := w) (isS := true) (cap := 0) hb1 (Nat.le_refl _) hb2
      obtain ⟨rfl, rfl⟩ := h0
      refine ⟨rfl, _, by simp only [execOp, ho, hav, Instr.sliceAt, Instr.slice, Sem.run_bind, ru hu, Result.andThen_ok, Option.map_none, hrun, rsz hn]; rfl, ?_⟩
      simp only [Nat.sub_zero, if_true]
      exact .zs _
    · cases hr
  case simm cs len b off cap vs hc hi' ho1 h hlc =>
    obtain ⟨hh, h1, hr⟩ := bind_some hr
    obtain ⟨ll, h2, hr⟩ := bind_some hr
    split at hr
    · rename_i hcl
      cases hr
      have hb1 := bndOf_rel (μ := μ) (ι := ι) (w := w) hhi hρh h1
      have hb2 := bndOf_rel (μ := μ) (ι := ι) (w := w) hlo hρl h2
      obtain ⟨hrun, hle1, hle2⟩ := sliceBounds_run (c := c) (w := w) (isS := true) (cap := cap) hb1 hlc hb2
      refine ⟨rfl, _, by simp only [execOp, ho, hav, Instr.sliceAt, Instr.slice, Sem.run_bind, ru hu, Result.andThen_ok, Option.map_none, hrun, rsz hn]; rfl, ?_⟩
      have hlen : ((cs.drop (ll * n)).take ((hh - ll) * n)).length = (hh - ll) * n := by
        have : hh * n ≤ len * n := Nat.mul_le_mul_right n hle2
        have h3 : (hh - ll) * n = hh * n - ll * n := Nat.sub_mul hh ll n
        simp; omega
      have hin : ∀ i, i < (hh - ll) * n → ll * n + i < cs.length := fun i hi => by
        have : hh * n ≤ len * n := Nat.mul_le_mul_right n hle2
        have h3 : (hh - ll) * n = hh * n - ll * n := Nat.sub_mul hh ll n
        have h4 : ll * n ≤ hh * n := Nat.mul_le_mul_right n hle1
        omega
      by_cases hcap : cap = ll
      · rw [if_pos hcap]
        have h0 : hh - ll = 0 := by omega
        rw [h0] at hlen ⊢
        exact .simm (fun _ => undef) (fun i hi => by rw [hlen] at hi; omega) (fun i hi => by rw [hlen] at hi; omega) (fun i hi => by rw [hlen] at hi; omega) (fun i hi => by rw [hlen] at hi; omega) (Nat.zero_le _)
      · rw [if_neg hcap]
        simp only [Option.map_some, add_mk]
        refine .simm (fun i => vs (ll * n + i)) (fun i hi => ?_) (fun i hi => ?_) (fun i hi => ?_) (fun i hi => ?_) (by omega) <;> rw [hlen] at hi
        · rw [Nat.add_assoc]; exact hc _ (hin i hi)
        · rw [Nat.add_assoc]; exact hi' _ (hin i hi)
        · exact ho1 _ (hin i hi)
        · rw [getD_drop_take _ _ _ _ hi]; exact h _ (hin i hi)
    · cases hr
  case sref id off len esz cap p off' hp hcap hlc had =>
    obtain ⟨hh, h1, hr⟩ := bind_some hr
    obtain ⟨ll, h2, hr⟩ := bind_some hr
    split at hr
    · rename_i hes
      subst hes
      cases hr
      have hb1 := bndOf_rel (μ := μ) (ι := ι) (w := w) hhi hρh h1
      have hb2 := bndOf_rel (μ := μ) (ι := ι) (w := w) hlo hρl h2
      obtain ⟨hrun, hle1, hle2⟩ := sliceBounds_run (c := c) (w := w) (isS := true) (cap := cap) hb1 hlc hb2
      have hm : (cap - ll) * esz = cap * esz - ll * esz := Nat.sub_mul cap ll esz
      have hm2 : ll * esz ≤ cap * esz := Nat.mul_le_mul_right esz (by omega)
      refine ⟨rfl, _, by simp only [execOp, ho, hav, Instr.sliceAt, Instr.slice, Sem.run_bind, ru hu, Result.andThen_ok, Option.map_none, hrun, rsz hn]; rfl, ?_⟩
      by_cases hc : cap = ll
      · rw [if_pos hc]
        exact .sref hp (by omega) (by omega) (fun h => absurd (by omega) h)
      · rw [if_neg hc]
        simp only [Option.map_some, add_mk]
        rw [Nat.add_assoc]
        exact .sref hp (by omega) (by omega) (fun _ => by rw [had (by omega)])
    · cases hr


theorem look_sliceStr {t : TypeId} {x : Operand} {lo hi : Option Operand} (ho : o.op = .slice t x lo hi none) (hρ : Ho μ ι w c e a o) (hu : c.P.underlying t = some .string)
    {y : Opd} {llo lhi : Option Opd} (hy : opd c x = some y) (hlo : opdO c lo = some llo) (hhi : opdO c hi = some lhi) (hr : (LOp.sliceStr y llo lhi).run e s = some (v, s')) : s' = s ∧ Looks μ ι w c.P a o v := by
  have hx := hρ x y (by simp [ho, Op.operands]) hy
  have hρl : ∀ x y, lo = some x → opd c x = some y → Rv μ ι w (y.ev e) (a.eval x) := fun x y h hy => hρ x y (by subst h; simp [ho, Op.operands]) hy
  have hρh : ∀ x y, hi = some x → opd c x = some y → Rv μ ι w (y.ev e) (a.eval x) := fun x y h hy => hρ x y (by subst h; simp [ho, Op.operands]) hy
  unfold LOp.run at hr
  dsimp only at hr
  generalize y.ev e = lv at *
  generalize hav : a.eval x = av at *
  cases hx <;> try (cases hr; done)
  case str b =>
    obtain ⟨h, h1, hr⟩ := bind_some hr
    obtain ⟨l, h2, hr⟩ := bind_some hr
    cases hr
    have hb1 := bndOf_rel (μ := μ) (ι := ι) (w := w) hhi hρh h1
    have hb2 := bndOf_rel (μ := μ) (ι := ι) (w := w) hlo hρl h2
    obtain ⟨hrun, hle1, hle2⟩ := sliceBounds_run (c := c) (w := w) (isS := false) (cap := b.size) hb1 (Nat.le_refl _) hb2
    exact ⟨rfl, _, by simp only [execOp, ho, hav, Instr.sliceAt, Instr.slice, Sem.run_bind, ru hu, Result.andThen_ok, Option.map_none, Option.isSome_none, Bool.false_eq_true, if_false, Sem.run_pure, hrun], .str _⟩

theorem look_lenSl {t : TypeId} {x : Operand} (ho : o.op = .call { callee := .builtin .len, args := #[x], argTypes := #[t] }) (hρ : Ho μ ι w c e a o) {el : TypeId} (hu : c.P.underlying t = some (.slice el))
    {y : Opd} (hy : opd c x = some y) (hr : (LOp.lenSl y).run e s = some (v, s')) : s' = s ∧ Looks μ ι w c.P a o v := by
  have hx := hρ x y (by simp [ho, Op.operands, Call.operands]) hy
  unfold LOp.run at hr
  dsimp only at hr
  generalize y.ev e = lv at *
  generalize hav : a.eval x = av at *
  obtain ⟨n, h1, hr⟩ := bind_some hr
  cases hr
  have h2 : ∃ b k, av = .slice b n k := by
    cases hx <;> simp only [slLen, reduceCtorEq] at h1 <;> cases h1 <;> exact ⟨_, _, rfl⟩
  obtain ⟨b, k, rfl⟩ := h2
  exact ⟨rfl, _, by simp only [execOp, ho, resolve, Sem.run_bind, Sem.run_pure, Result.andThen_ok, invoke, builtin, List.map_toArray, List.map_cons, List.map_nil, hav]; simp [Builtin.len_, ru hu]; rfl, .int _ _⟩

theorem look_lenStr {t : TypeId} {x : Operand} (ho : o.op = .call { callee := .builtin .len, args := #[x], argTypes := #[t] }) (hρ : Ho μ ι w c e a o) (hu : c.P.underlying t = some .string)
    {y : Opd} (hy : opd c x = some y) (hr : (LOp.lenStr y).run e s = some (v, s')) : s' = s ∧ Looks μ ι w c.P a o v := by
  have hx := hρ x y (by simp [ho, Op.operands, Call.operands]) hy
  unfold LOp.run at hr
  dsimp only at hr
  generalize y.ev e = lv at *
  generalize hav : a.eval x = av at *
  cases hx <;> try (cases hr; done)
  cases hr
  exact ⟨rfl, _, by simp only [execOp, ho, resolve, Sem.run_bind, Sem.run_pure, Result.andThen_ok, invoke, builtin, List.map_toArray, List.map_cons, List.map_nil, hav]; simp [Builtin.len_, ru hu]; rfl, .int _ _⟩

theorem look_lenArr {t : TypeId} {x : Operand} (ho : o.op = .call { callee := .builtin .len, args := #[x], argTypes := #[t] }) {n : Nat} {el : TypeId} (hu : c.P.underlying t = some (.array n el))
    (hr : (LOp.lenArr n).run e s = some (v, s')) : s' = s ∧ Looks μ ι w c.P a o v := by
  cases hr
  refine ⟨rfl, _, by simp only [execOp, ho, resolve, Sem.run_bind, Sem.run_pure, Result.andThen_ok, invoke, builtin, List.map_toArray, List.map_cons, List.map_nil]; simp [Builtin.len_, ru hu]; rfl, .int _ _⟩

theorem minmax_go (isMax : Bool) (k : IntKind) : ∀ (ls : List LV) (vs : List Value) (x r : Int), vs.length = ls.length → (∀ i, i < ls.length → Rv μ ι w (ls.getD i .top) (vs.getD i undef)) → minmaxLV.go isMax k x ls = some r →
    (vs.foldlM (if isMax then Builtin.max2 else Builtin.min2) (.int k x)).run c.P w = .ok (.int k r) w := by
  intro ls
  induction ls with
  | nil => intro vs x r hl _ h; simp at hl; subst hl; simp [minmaxLV.go] at h; subst h; rfl
  | cons l ls ih =>
    intro vs x r hl hr h
    cases vs with
    | nil => simp at hl
    | cons u vs =>
      have h0 : Rv μ ι w l u := by simpa using hr 0 (by simp)
      cases h0 <;> simp only [minmaxLV.go, reduceCtorEq] at h
      split at h
      · rename_i e
        subst e
        have := ih vs _ r (by simpa using hl) (fun i hi => by simpa using hr (i + 1) (by simpa using hi)) h
        cases isMax
        · simp only [Bool.false_eq_true, if_false] at this ⊢
          simp only [List.foldlM_cons, Sem.run_bind, Builtin.min2, Sem.run_pure, Result.andThen_ok]
          exact this
        · simp only [if_true] at this ⊢
          simp only [List.foldlM_cons, Sem.run_bind, Builtin.max2, Sem.run_pure, Result.andThen_ok]
          exact this
      · cases h


theorem look_minmax {b : Builtin} {x : Operand} {xs : List Operand} {ts : Array TypeId} {as : Array Operand} (has : as.toList = x :: xs) (hb : b = .min ∨ b = .max) (ho : o.op = .call { callee := .builtin b, args := as, argTypes := ts })
    (hρ : Ho μ ι w c e a o) {ys : List Opd} (hy : opds c (x :: xs) = some ys) (hr : (LOp.minmax (match b with | .max => true | _ => false) ys).run e s = some (v, s')) : s' = s ∧ Looks μ ι w c.P a o v := by
  unfold LOp.run at hr
  dsimp only at hr
  obtain ⟨v', h1, hr⟩ := bind_some hr
  cases hr
  have hops : o.op.operands.toList = x :: xs := by rw [ho]; simp [Op.operands, Call.operands, has]
  obtain ⟨hl, hrel⟩ := opds_rel (μ := μ) (ι := ι) (w := w) (e := e) (a := a) hy (fun x y hx hy => hρ x y (by rw [hops]; exact hx) hy)
  cases ys with
  | nil => simp [minmaxLV] at h1
  | cons y ys =>
    have h0 : Rv μ ι w (y.ev e) (a.eval x) := by simpa using hrel 0 (by simp)
    simp only [List.map_cons] at h1
    generalize y.ev e = ly at *
    generalize hax : a.eval x = ax at *
    cases h0 <;> simp only [minmaxLV, reduceCtorEq] at h1
    rename_i k n
    obtain ⟨r, h2, rfl⟩ := map_some' h1
    have hl' : (xs.map a.eval).length = (ys.map (·.ev e)).length := by simpa using hl
    have hrel' : ∀ i, i < (ys.map (·.ev e)).length → Rv μ ι w ((ys.map (·.ev e)).getD i .top) ((xs.map a.eval).getD i undef) := fun i hi => by
      have := hrel (i + 1) (by simpa using hi)
      simpa [Array.getD_eq_getD_getElem?, List.getD_eq_getElem?_getD] using this
    have hgo := minmax_go (c := c) (w := w) _ k _ _ n r hl' hrel' h2
    have hargs : (as.map a.eval).toList = .int k n :: xs.map a.eval := by simp [has, hax]
    refine ⟨rfl, .int k r, ?_, .int _ _⟩
    rcases hb with rfl | rfl
    · simp only [Bool.false_eq_true, if_false] at hgo
      simp only [execOp, ho, resolve, Sem.run_bind, Sem.run_pure, Result.andThen_ok, invoke, builtin, Builtin.min_, hargs]
      rw [hgo]; rfl
    · simp only [if_true] at hgo
      simp only [execOp, ho, resolve, Sem.run_bind, Sem.run_pure, Result.andThen_ok, invoke, builtin, Builtin.max_, hargs]
      rw [hgo]; rfl

/-- **Every operation that only looks: what the plain operation yields, the machine's yields, and nothing turns.** -/
theorem look_sound {lo : LOp} (hl : Op.looks o.op = true) (hc : compOp c o = some lo) (hρ : Ho μ ι w c e a o) (I : Inv cmp w0 μ ι δ s w) (hnew : isNewL lo = false) (hr : lo.run e s = some (v, s')) :
    s' = s ∧ Looks μ ι w c.P a o v := by
  cases ho : o.op <;> rw [ho] at hl <;> simp only [Op.looks, reduceCtorEq, Bool.false_eq_true] at hl
  case move x => simp only [compOp, ho] at hc; obtain ⟨y, hy, rfl⟩ := map_some' hc; exact look_move (.inl ho) hρ hy hr
  case assign x => simp only [compOp, ho] at hc; obtain ⟨y, hy, rfl⟩ := map_some' hc; exact look_move (.inr ho) hρ hy hr
  case pick k x y =>
    simp only [compOp, ho] at hc
    obtain ⟨k', hk, hc⟩ := bind_some hc; obtain ⟨x', hx, hc⟩ := bind_some hc; obtain ⟨y', hy, hc⟩ := bind_some hc; cases hc
    exact look_pick ho hρ hk hx hy hr
  case build t ps => exact look_build ho hρ hc hr
  case load t x =>
    simp only [compOp, ho] at hc
    obtain ⟨n, hn, hc⟩ := bind_some hc; obtain ⟨y, hy, hc⟩ := bind_some hc; cases hc
    exact look_load I ho hρ hn hy hr
  case nilCheck x => simp only [compOp, ho] at hc; obtain ⟨y, hy, hc⟩ := bind_some hc; cases hc; exact look_nilchk ho hρ hy hr
  case binOp op t x y t' => exact look_bin ho hρ hc hr
  case unOp op t x => simp only [compOp, ho] at hc; obtain ⟨y, hy, hc⟩ := bind_some hc; cases hc; exact look_un ho hρ hy hr
  case convert t d x =>
    simp only [compOp, ho] at hc
    cases hu : c.P.underlying d with
    | none => simp [hu] at hc
    | some ty =>
      rw [hu] at hc
      cases ty <;> simp only [reduceCtorEq] at hc
      case int k => obtain ⟨⟨⟩, ht, hc⟩ := bind_some hc; obtain ⟨y, hy, hc⟩ := bind_some hc; cases hc; exact look_convInt ho hρ hu (by unfold knownTy at ht; split at ht; exact ⟨_, by assumption⟩; cases ht) hy hr
      case string =>
        split at hc
        · split at hc
          · obtain ⟨y, hy, hc⟩ := map_some' hc; subst hc; cases hnew
          · cases hc
        · rename_i d' hd' hts; obtain ⟨y, hy, hc⟩ := map_some' hc; subst hc; exact look_convSame ho hρ hu ⟨_, hts⟩ hy hr
        · cases hc
  case makeFunc f xs ys =>
    cases f <;> simp only [compOp, ho, reduceCtorEq] at hc
    obtain ⟨lx, hx, hc⟩ := bind_some hc; obtain ⟨ly, hy, hc⟩ := bind_some hc; cases hc
    exact look_mkfn ho hρ hx hy hr
  case slice t x l h m =>
    cases m with
    | some mx =>
      exfalso
      cases l <;> cases h <;> simp only [compOp, ho, reduceCtorEq] at hc
      split at hc
      · obtain ⟨_, _, hc⟩ := bind_some hc; obtain ⟨_, _, hc⟩ := bind_some hc; obtain ⟨_, _, hc⟩ := bind_some hc; obtain ⟨_, _, hc⟩ := bind_some hc; obtain ⟨_, _, hc⟩ := bind_some hc; cases hc; cases hnew
      · cases hc
    | none =>
    simp only [compOp, ho] at hc
    cases hu : c.P.underlying t with
    | none => simp [hu] at hc
    | some ty =>
      rw [hu] at hc
      cases ty <;> simp only [reduceCtorEq] at hc
      case slice el =>
        obtain ⟨n, hn, hc⟩ := bind_some hc; obtain ⟨y, hy, hc⟩ := bind_some hc; obtain ⟨l', hl', hc⟩ := bind_some hc; obtain ⟨h', hh', hc⟩ := bind_some hc; cases hc
        exact look_slice ho hρ hu hn hy hl' hh' hr
      case string =>
        obtain ⟨y, hy, hc⟩ := bind_some hc; obtain ⟨l', hl', hc⟩ := bind_some hc; obtain ⟨h', hh', hc⟩ := bind_some hc; cases hc
        exact look_sliceStr ho hρ hu hy hl' hh' hr
  case fieldAddr st x f =>
    simp only [compOp, ho] at hc
    cases hu : c.P.underlying st with
    | none => simp [hu] at hc
    | some ty =>
      rw [hu] at hc
      cases ty <;> simp only [reduceCtorEq] at hc
      obtain ⟨fl, hf, hc⟩ := bind_some hc; obtain ⟨n, hn, hc⟩ := bind_some hc
      split at hc
      · cases hc
      · rename_i h0
        obtain ⟨y, hy, hc⟩ := bind_some hc; cases hc
        exact look_faddr ho hρ hu hf hn h0 hy hr
  case field t x f =>
    simp only [compOp, ho] at hc
    cases hu : c.P.underlying t with
    | none => simp [hu] at hc
    | some ty =>
      rw [hu] at hc
      cases ty <;> simp only [reduceCtorEq] at hc
      obtain ⟨fl, hf, hc⟩ := bind_some hc; obtain ⟨n, hn, hc⟩ := bind_some hc; obtain ⟨y, hy, hc⟩ := bind_some hc; cases hc
      exact look_field ho hρ hu hf hn hy hr
  case indexAddr t x i =>
    simp only [compOp, ho] at hc
    cases hu : c.P.underlying t with
    | none => simp [hu] at hc
    | some ty =>
      rw [hu] at hc
      cases ty <;> simp only [reduceCtorEq] at hc
      case slice el => obtain ⟨n, hn, hc⟩ := bind_some hc; obtain ⟨y, hy, hc⟩ := bind_some hc; obtain ⟨yi, hyi, hc⟩ := bind_some hc; cases hc; exact look_iaddr ho hρ hu hn hy hyi hr
      case array len el => obtain ⟨n, hn, hc⟩ := bind_some hc; obtain ⟨y, hy, hc⟩ := bind_some hc; obtain ⟨yi, hyi, hc⟩ := bind_some hc; cases hc; exact look_iaddrArr ho hρ hu hn hy hyi hr
  case index t x i =>
    simp only [compOp, ho] at hc
    cases hu : c.P.underlying t with
    | none => simp [hu] at hc
    | some ty =>
      rw [hu] at hc
      cases ty <;> simp only [reduceCtorEq] at hc
      case array len el =>
        obtain ⟨n, hn, hc⟩ := bind_some hc; obtain ⟨ag, hag, hc⟩ := bind_some hc; obtain ⟨y, hy, hc⟩ := bind_some hc; obtain ⟨yi, hyi, hc⟩ := bind_some hc; cases hc
        exact look_indexArr ho hρ hu hn hag hy hyi hr
      case string => obtain ⟨y, hy, hc⟩ := bind_some hc; obtain ⟨yi, hyi, hc⟩ := bind_some hc; cases hc; exact look_indexStr ho hρ hu hy hyi hr
  case extract x i => simp only [compOp, ho] at hc; obtain ⟨y, hy, hc⟩ := bind_some hc; cases hc; exact look_ext ho hρ hy hr
  case call cl =>
    obtain ⟨cal, as, ts⟩ := cl
    cases cal <;> try (cases hl; done)
    rename_i b
    cases b <;> simp only [reduceCtorEq, Bool.false_eq_true] at hl
    case len =>
      simp only [compOp, ho, compBuiltin] at hc
      rcases has : as.toList with _ | ⟨x, _ | ⟨x2, xs⟩⟩ <;> rcases hts : ts.toList with _ | ⟨t, _ | ⟨t2, tl⟩⟩ <;> rw [has, hts] at hc <;> try (cases hc; done)
      have h1 : as = #[x] := by apply Array.ext'; simpa using has
      have h2 : ts = #[t] := by apply Array.ext'; simpa using hts
      subst h1; subst h2
      simp only [compLen] at hc
      cases hu : c.P.underlying t with
      | none => simp [hu] at hc
      | some ty =>
        rw [hu] at hc
        cases ty <;> simp only [reduceCtorEq] at hc
        case slice el => obtain ⟨y, hy, hc⟩ := bind_some hc; cases hc; exact look_lenSl ho hρ hu hy hr
        case string => obtain ⟨y, hy, hc⟩ := bind_some hc; cases hc; exact look_lenStr ho hρ hu hy hr
        case array n el => cases hc; exact look_lenArr ho hu hr
        case map => obtain ⟨y, hy, hc⟩ := bind_some hc; cases hc; cases hnew
    case max =>
      simp only [compOp, ho, compBuiltin] at hc
      rcases has : as.toList with _ | ⟨x, xs⟩ <;> rw [has] at hc <;> try (cases hc; done)
      simp only at hc
      obtain ⟨ys, hy, hc⟩ := bind_some hc; cases hc
      exact look_minmax has (.inr rfl) ho hρ hy hr
    case min =>
      simp only [compOp, ho, compBuiltin] at hc
      rcases has : as.toList with _ | ⟨x, xs⟩ <;> rw [has] at hc <;> try (cases hc; done)
      simp only at hc
      obtain ⟨ys, hy, hc⟩ := bind_some hc; cases hc
      exact look_minmax has (.inl rfl) ho hρ hy hr

end
end Go.Pv
