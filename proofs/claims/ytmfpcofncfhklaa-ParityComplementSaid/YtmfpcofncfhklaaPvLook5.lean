/- Operations that only look: the rest, and the theorem. -/
import Derived.Test.YtmfpcofncfhklaaPvLook4
set_option linter.unusedSimpArgs false
namespace Go.Pv
open Go Go.RowKit

section
variable {w : World} {w0 : Bs} {μ : Mu} {ι : Io} {δ : Nat → Prop} {s s' : St} {cmp : Nat → LCode → Code → Prop} {c : Ctx} {e : Env} {a : Act} {o : Oper} {v : LV}

theorem look_convInt {t dst : TypeId} {x : Operand} (ho : o.op = .convert t dst x) (hρ : Ho μ ι w c e a o) {k : IntKind} (hk : c.P.underlying dst = some (.int k)) (hts : ∃ d, c.P.underlying t = some d)
    {y : Opd} (hy : opd c x = some y) (hr : (LOp.convInt k y).run e s = some (v, s')) : s' = s ∧ Looks μ ι w c.P a o v := by
  have hx := hρ x y (by simp [ho, Op.operands]) hy
  obtain ⟨d, hd⟩ := hts
  unfold LOp.run at hr
  dsimp only at hr
  generalize y.ev e = lv at *
  generalize hav : a.eval x = av at *
  cases hx <;> try (cases hr; done)
  cases hr
  refine ⟨rfl, _, by simp only [execOp, ho, hav, convert, Sem.run_bind, ru hd, ru hk, Result.andThen_ok, Conv.intToInt]; rfl, .int _ _⟩

theorem look_convSame {t dst : TypeId} {x : Operand} (ho : o.op = .convert t dst x) (hρ : Ho μ ι w c e a o) (hk : c.P.underlying dst = some .string) (hts : ∃ d, c.P.underlying t = some d)
    {y : Opd} (hy : opd c x = some y) (hr : (LOp.convSame y).run e s = some (v, s')) : s' = s ∧ Looks μ ι w c.P a o v := by
  have hx := hρ x y (by simp [ho, Op.operands]) hy
  obtain ⟨d, hd⟩ := hts
  unfold LOp.run at hr
  dsimp only at hr
  generalize y.ev e = lv at *
  generalize hav : a.eval x = av at *
  cases hx <;> try (cases hr; done)
  cases hr
  refine ⟨rfl, _, by simp only [execOp, ho, hav, convert, Sem.run_bind, ru hd, ru hk, Result.andThen_ok]; rfl, .str _⟩

theorem look_mkfn {f : Fn} {xs ys : Array Operand} (ho : o.op = .makeFunc f xs ys) (hρ : Ho μ ι w c e a o) {lx ly : List Opd} (hx : opds c xs.toList = some lx) (hy : opds c ys.toList = some ly)
    (hr : (LOp.mkfn f lx ly).run e s = some (v, s')) : s' = s ∧ Looks μ ι w c.P a o v := by
  cases hr
  have hops : o.op.operands.toList = xs.toList ++ ys.toList := by rw [ho]; simp [Op.operands]
  have h1 := opds_rel (μ := μ) (ι := ι) (w := w) (e := e) (a := a) hx (fun x y hx hy => hρ x y (by rw [hops]; exact List.mem_append_left _ hx) hy)
  have h2 := opds_rel (μ := μ) (ι := ι) (w := w) (e := e) (a := a) hy (fun x y hx hy => hρ x y (by rw [hops]; exact List.mem_append_right _ hx) hy)
  refine ⟨rfl, .func f (xs.map a.eval) (ys.map a.eval), by simp [execOp, ho, Instr.makeFunc], ?_⟩
  have e1 : (xs.toList.map a.eval).toArray = xs.map a.eval := by apply Array.ext'; simp
  have e2 : (ys.toList.map a.eval).toArray = ys.map a.eval := by apply Array.ext'; simp
  rw [e1] at h1
  rw [e2] at h2
  exact .fn h1.1 h2.1 h1.2 h2.2

theorem look_faddr {st : TypeId} {x : Operand} {f : Nat} (ho : o.op = .fieldAddr st x f) (hρ : Ho μ ι w c e a o) {fs : Array Field} (hu : c.P.underlying st = some (.struct fs)) {fl : Field} (hf : fs[f]? = some fl)
    {n : Nat} (hn : szOf c.P fl.type = some n) (h0 : n ≠ 0) {y : Opd} (hy : opd c x = some y) (hr : (LOp.faddr fl.offset y).run e s = some (v, s')) : s' = s ∧ Looks μ ι w c.P a o v := by
  have hx := hρ x y (by simp [ho, Op.operands]) hy
  unfold LOp.run at hr
  dsimp only at hr
  generalize y.ev e = lv at *
  generalize hav : a.eval x = av at *
  cases hx <;> try (cases hr; done)
  case pimm vs hc hi ho1 h =>
    cases hr
    refine ⟨rfl, _, by simp only [execOp, ho, hav, Instr.fieldAt, Sem.run_bind, ru hu, Result.andThen_ok, hf, Instr.sureAddr, Sem.run_pure, fieldPlace, rsz hn, h0, if_false, add_mk]; rfl, ?_⟩
    rw [Nat.add_assoc]
    exact .pimm vs hc hi ho1 h
  case pref hp =>
    cases hr
    refine ⟨rfl, _, by simp only [execOp, ho, hav, Instr.fieldAt, Sem.run_bind, ru hu, Result.andThen_ok, hf, Instr.sureAddr, Sem.run_pure, fieldPlace, rsz hn, h0, if_false, add_mk]; rfl, ?_⟩
    rw [Nat.add_assoc]
    exact .pref hp

theorem look_field {st : TypeId} {x : Operand} {f : Nat} (ho : o.op = .field st x f) (hρ : Ho μ ι w c e a o) {fs : Array Field} (hu : c.P.underlying st = some (.struct fs)) {fl : Field} (hf : fs[f]? = some fl)
    {n : Option Nat} (hn : aggOf c.P fl.type = some n) {y : Opd} (hy : opd c x = some y) (hr : (LOp.field fl.offset n y).run e s = some (v, s')) : s' = s ∧ Looks μ ι w c.P a o v := by
  have hx := hρ x y (by simp [ho, Op.operands]) hy
  unfold LOp.run at hr
  dsimp only at hr
  generalize y.ev e = lv at *
  generalize hav : a.eval x = av at *
  cases hx <;> try (cases hr; done)
  case agg hl h =>
    obtain ⟨v', h1, h2⟩ := bind_some hr
    cases h2
    obtain ⟨u, hu1, hu2⟩ := part_rel (w := w) hn hl h h1
    exact ⟨rfl, u, by simp [execOp, ho, hav, Instr.field, ru hu, hf, asAgg, hu1], hu2⟩

theorem look_iaddr {t : TypeId} {x i : Operand} (ho : o.op = .indexAddr t x i) (hρ : Ho μ ι w c e a o) {el : TypeId} (hu : c.P.underlying t = some (.slice el)) {n : Nat} (hn : szOf c.P el = some n)
    {y yi : Opd} (hy : opd c x = some y) (hyi : opd c i = some yi) (hr : (LOp.iaddr n y yi).run e s = some (v, s')) : s' = s ∧ Looks μ ι w c.P a o v := by
  have hx := hρ x y (by simp [ho, Op.operands]) hy
  have hxi := hρ i yi (by simp [ho, Op.operands]) hyi
  unfold LOp.run at hr
  dsimp only at hr
  generalize y.ev e = lv at *
  generalize yi.ev e = li at *
  generalize hav : a.eval x = av at *
  generalize hai : a.eval i = ai at *
  cases hx <;> try (cases hr; done)
  case simm vs hc hi ho1 h hlc =>
    obtain ⟨k, h1, h2⟩ := bind_some hr
    cases h2
    obtain ⟨kd, z, rfl, hz, hz0, hz1, rfl⟩ := idxOf_rel (P := c.P) (w := w) hxi h1
    refine ⟨rfl, _, by simp only [execOp, ho, hav, hai, Instr.indexAt, Sem.run_bind, hz, ru hu, Result.andThen_ok, Sem.run_pure, Sem.run_ite, hz0, hz1, and_self, if_true, rsz hn, add_mk]; rfl, ?_⟩
    exact .pimm vs hc hi ho1 h
  case sref id off len esz cap p off' hp hcap hlc had =>
    obtain ⟨k, h1, h2⟩ := bind_some hr
    split at h2
    · cases h2
      obtain ⟨kd, z, rfl, hz, hz0, hz1, rfl⟩ := idxOf_rel (P := c.P) (w := w) hxi h1
      refine ⟨rfl, _, by simp only [execOp, ho, hav, hai, Instr.indexAt, Sem.run_bind, hz, ru hu, Result.andThen_ok, Sem.run_pure, Sem.run_ite, hz0, hz1, and_self, if_true, rsz hn, add_mk]; rfl, ?_⟩
      rw [had (by omega), Nat.add_assoc]
      exact .pref hp
    · cases h2

theorem look_iaddrArr {t : TypeId} {x i : Operand} (ho : o.op = .indexAddr t x i) (hρ : Ho μ ι w c e a o) {el : TypeId} {len : Nat} (hu : c.P.underlying t = some (.array len el)) {n : Nat} (hn : szOf c.P el = some n)
    {y yi : Opd} (hy : opd c x = some y) (hyi : opd c i = some yi) (hr : (LOp.iaddrArr n len y yi).run e s = some (v, s')) : s' = s ∧ Looks μ ι w c.P a o v := by
  have hx := hρ x y (by simp [ho, Op.operands]) hy
  have hxi := hρ i yi (by simp [ho, Op.operands]) hyi
  unfold LOp.run at hr
  dsimp only at hr
  generalize y.ev e = lv at *
  generalize yi.ev e = li at *
  generalize hav : a.eval x = av at *
  generalize hai : a.eval i = ai at *
  cases hx <;> try (cases hr; done)
  case pimm vs hc hi ho1 h =>
    obtain ⟨k, h1, h2⟩ := bind_some hr
    cases h2
    obtain ⟨kd, z, rfl, hz, hz0, hz1, rfl⟩ := idxOf_rel (P := c.P) (w := w) hxi h1
    refine ⟨rfl, _, by simp only [execOp, ho, hav, hai, Instr.indexAt, Instr.sureAddr, Sem.run_bind, hz, ru hu, Result.andThen_ok, Sem.run_pure, Sem.run_ite, hz0, hz1, and_self, if_true, rsz hn, add_mk]; rfl, ?_⟩
    rw [Nat.add_assoc]
    exact .pimm vs hc hi ho1 h
  case pref hp =>
    obtain ⟨k, h1, h2⟩ := bind_some hr
    cases h2
    obtain ⟨kd, z, rfl, hz, hz0, hz1, rfl⟩ := idxOf_rel (P := c.P) (w := w) hxi h1
    refine ⟨rfl, _, by simp only [execOp, ho, hav, hai, Instr.indexAt, Instr.sureAddr, Sem.run_bind, hz, ru hu, Result.andThen_ok, Sem.run_pure, Sem.run_ite, hz0, hz1, and_self, if_true, rsz hn, add_mk]; rfl, ?_⟩
    rw [Nat.add_assoc]
    exact .pref hp

theorem look_indexArr {t : TypeId} {x i : Operand} (ho : o.op = .index t x i) (hρ : Ho μ ι w c e a o) {el : TypeId} {len : Nat} (hu : c.P.underlying t = some (.array len el)) {n : Nat} (hn : szOf c.P el = some n)
    {ag : Option Nat} (hag : aggOf c.P el = some ag) {y yi : Opd} (hy : opd c x = some y) (hyi : opd c i = some yi) (hr : (LOp.indexArr n len ag y yi).run e s = some (v, s')) : s' = s ∧ Looks μ ι w c.P a o v := by
  have hx := hρ x y (by simp [ho, Op.operands]) hy
  have hxi := hρ i yi (by simp [ho, Op.operands]) hyi
  unfold LOp.run at hr
  dsimp only at hr
  generalize y.ev e = lv at *
  generalize yi.ev e = li at *
  generalize hav : a.eval x = av at *
  generalize hai : a.eval i = ai at *
  cases hx <;> try (cases hr; done)
  case agg hl h =>
    obtain ⟨k, h1, h2⟩ := bind_some hr
    obtain ⟨v', h3, h4⟩ := bind_some h2
    cases h4
    obtain ⟨kd, z, rfl, hz, hz0, hz1, rfl⟩ := idxOf_rel (P := c.P) (w := w) hxi h1
    obtain ⟨u, hu1, hu2⟩ := part_rel (w := w) hag hl h h3
    refine ⟨rfl, u, ?_, hu2⟩
    simp only [execOp, ho, hav, hai, Instr.index, Sem.run_bind, hz, ru hu, Result.andThen_ok, Sem.run_ite, hz0, hz1, and_self, if_true, rsz hn, hu1]
    rfl

theorem look_indexStr {t : TypeId} {x i : Operand} (ho : o.op = .index t x i) (hρ : Ho μ ι w c e a o) (hu : c.P.underlying t = some .string)
    {y yi : Opd} (hy : opd c x = some y) (hyi : opd c i = some yi) (hr : (LOp.indexStr y yi).run e s = some (v, s')) : s' = s ∧ Looks μ ι w c.P a o v := by
  have hx := hρ x y (by simp [ho, Op.operands]) hy
  have hxi := hρ i yi (by simp [ho, Op.operands]) hyi
  unfold LOp.run at hr
  dsimp only at hr
  generalize y.ev e = lv at *
  generalize yi.ev e = li at *
  generalize hav : a.eval x = av at *
  generalize hai : a.eval i = ai at *
  cases hx <;> try (cases hr; done)
  case str b =>
    obtain ⟨k, h1, h2⟩ := bind_some hr
    cases h2
    obtain ⟨kd, z, rfl, hz, hz0, hz1, rfl⟩ := idxOf_rel (P := c.P) (w := w) hxi h1
    have hlt : z.toNat < b.size := by omega
    have hb : b[z.toNat]? = some (b.data.getD z.toNat 0) := by
      rw [show b[z.toNat]? = some b[z.toNat] from by simp [hlt]]
      congr 1
      have : z.toNat < b.data.size := hlt
      simp only [Array.getD_eq_getD_getElem?, this, getElem?_pos, Option.getD_some]
      rfl
    refine ⟨rfl, .int .u8 (b.data.getD z.toNat 0).toNat, ?_, .int _ _⟩
    simp only [execOp, ho, hav, hai, Instr.index, Sem.run_bind, hz, ru hu, Result.andThen_ok, hz0, if_true, hb]
    rfl

theorem look_ext {x : Operand} {i : Nat} (ho : o.op = .extract x i) (hρ : Ho μ ι w c e a o) {y : Opd} (hy : opd c x = some y) (hr : (LOp.ext y i).run e s = some (v, s')) : s' = s ∧ Looks μ ι w c.P a o v := by
  have hx := hρ x y (by simp [ho, Op.operands]) hy
  unfold LOp.run at hr
  dsimp only at hr
  generalize y.ev e = lv at *
  generalize hav : a.eval x = av at *
  cases hx <;> try (cases hr; done)
  case tup cs vs hl h =>
    obtain ⟨v', h1, h2⟩ := bind_some hr
    cases h2
    obtain ⟨hlt, rfl⟩ := List.getElem?_eq_some_iff.1 h1
    have hlt' : i < vs.size := by rw [hl]; exact hlt
    have := h i hlt
    refine ⟨rfl, vs[i], by simp [execOp, ho, hav, Instr.extract, hlt'], ?_⟩
    simpa [List.getD_eq_getElem?_getD, Array.getD_eq_getD_getElem?, hlt, hlt'] using this

theorem bndOf_rel {d max : Nat} {lo : Option Operand} {llo : Option Opd} {k : Nat} (hlo : opdO c lo = some llo) (hρ : ∀ x y, lo = some x → opd c x = some y → Rv μ ι w (y.ev e) (a.eval x))
    (h : bndOf d max (llo.map (·.ev e)) = some k) : (lo = none ∧ k = d) ∨ (∃ x kd z, lo = some x ∧ a.eval x = .int kd z ∧ 0 ≤ z ∧ z ≤ max ∧ k = z.toNat) := by
  cases lo with
  | none => cases hlo; cases h; exact .inl ⟨rfl, rfl⟩
  | some x =>
    obtain ⟨y, hy, rfl⟩ := map_some' hlo
    have hx := hρ x y rfl hy
    simp only [Option.map_some] at h
    generalize y.ev e = lv at *
    generalize hav : a.eval x = av at *
    cases hx <;> simp only [bndOf, reduceCtorEq] at h
    split at h
    · rename_i hb; cases h; exact .inr ⟨x, _, _, rfl, hav, hb.1, hb.2, rfl⟩
    · cases h

theorem sliceBounds_run {isS : Bool} {len cap : Nat} {lo hi : Option Operand} {h l : Nat}
    (hh : (hi = none ∧ h = len) ∨ (∃ x kd z, hi = some x ∧ a.eval x = .int kd z ∧ 0 ≤ z ∧ z ≤ len ∧ h = z.toNat)) (hlc : len ≤ cap)
    (hl : (lo = none ∧ l = 0) ∨ (∃ x kd z, lo = some x ∧ a.eval x = .int kd z ∧ 0 ≤ z ∧ z ≤ h ∧ l = z.toNat)) :
    (Instr.sliceBounds isS len cap (lo.map a.eval) (hi.map a.eval) none).run c.P w = .ok (l, h, cap) w ∧ l ≤ h ∧ h ≤ len := by
  have hcap : ∀ z : Int, z ≤ len → z ≤ cap := fun z hz => by omega
  rcases hh with ⟨rfl, rfl⟩ | ⟨x, kd, z, rfl, hx, hz0, hz1, rfl⟩ <;> rcases hl with ⟨rfl, rfl⟩ | ⟨x', kd', z', rfl, hx', hz0', hz1', rfl⟩
  · simp [Instr.sliceBounds]
  · refine ⟨?_, by omega, by omega⟩
    simp [Instr.sliceBounds, Instr.sliceBound, hx', asIntOf, hz0', hz1']
  · refine ⟨?_, by omega, by omega⟩
    simp [Instr.sliceBounds, Instr.sliceBound, hx, asIntOf, hz0, hcap z hz1]
  · refine ⟨?_, by omega, by omega⟩
    have h1 : z' ≤ max z 0 := by omega
    simp [Instr.sliceBounds, Instr.sliceBound, hx, hx', asIntOf, hz0, hcap z hz1, hz0', h1]

end
end Go.Pv
