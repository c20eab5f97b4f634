/- Operations that only look: the theorem. -/
import Derived.Test.YtmfpcofncfhklaaPvLook3
set_option linter.unusedSimpArgs false
namespace Go.Pv
open Go Go.RowKit

section
variable {w : World} {w0 : Bs} {μ : Mu} {ι : Io} {δ : Nat → Prop} {s s' : St} {cmp : Nat → LCode → Code → Prop} {c : Ctx} {e : Env} {a : Act} {o : Oper} {v : LV}

theorem look_of {x : Value} (h : (execOp a.eval o).run c.P w = .ok (.value x) w) (hr : Rv μ ι w v x) : Looks μ ι w c.P a o v := ⟨x, h, hr⟩

theorem look_move {x : Operand} (ho : o.op = .move x ∨ o.op = .assign x) (hρ : Ho μ ι w c e a o) {y : Opd} (hy : opd c x = some y) (hr : (LOp.mv y).run e s = some (v, s')) :
    s' = s ∧ Looks μ ι w c.P a o v := by
  cases hr
  have hx := hρ x y (by rcases ho with ho | ho <;> simp [ho, Op.operands]) hy
  exact ⟨rfl, a.eval x, by rcases ho with ho | ho <;> simp [execOp, ho], hx⟩

theorem look_pick {k x x' : Operand} (ho : o.op = .pick k x x') (hρ : Ho μ ι w c e a o) {yk y y' : Opd} (hk : opd c k = some yk) (hy : opd c x = some y) (hy' : opd c x' = some y')
    (hr : (LOp.pick yk y y').run e s = some (v, s')) : s' = s ∧ Looks μ ι w c.P a o v := by
  have h1 := hρ k yk (by simp [ho, Op.operands]) hk
  have h2 := hρ x y (by simp [ho, Op.operands]) hy
  have h3 := hρ x' y' (by simp [ho, Op.operands]) hy'
  simp only [LOp.run] at hr
  generalize yk.ev e = lk at *
  generalize hak : a.eval k = ak at *
  cases h1 <;> simp only [reduceCtorEq] at hr
  cases hr
  rename_i b
  refine ⟨rfl, _, by simp [execOp, ho, hak, asBool]; rfl, ?_⟩
  cases b
  · exact h3
  · exact h2

theorem look_build {t : TypeId} {ps : Array (Nat × Operand)} (ho : o.op = .build t ps) (hρ : Ho μ ι w c e a o) {lo : LOp} (hc : compOp c o = some lo) (hr : lo.run e s = some (v, s')) :
    s' = s ∧ Looks μ ι w c.P a o v := by
  simp only [compOp, ho] at hc
  obtain ⟨z, hz, hc⟩ := bind_some hc
  obtain ⟨zv, hzr, hza, _⟩ := zeroC_run (μ := μ) (ι := ι) (w := w) hz
  have hps : ∀ x y, x ∈ ps.toList.map (·.2) → opd c x = some y → Rv μ ι w (y.ev e) (a.eval x) := fun x y hx hy => hρ x y (by simpa [ho, Op.operands] using hx) hy
  have hmap : (ps.map fun (i, x) => (i, a.eval x)).toList = maParts a ps.toList := by simp [maParts]
  cases hu : c.P.underlying t with
  | none => simp [hu] at hc
  | some ty =>
    rw [hu] at hc
    cases ty <;> simp only [reduceCtorEq] at hc
    case struct fs =>
      obtain ⟨places, hpl, hc⟩ := bind_some hc
      obtain ⟨ls, hls, hc⟩ := bind_some hc
      cases hc
      simp only [LOp.run] at hr
      obtain ⟨cs', hf, hr⟩ := bind_some hr
      cases hr
      obtain ⟨h1, h2⟩ := partsOf_rel (μ := μ) (ι := ι) (w := w) (e := e) (a := a) hls hps
      obtain ⟨vs', hv1, hv2⟩ := fill_rel _ _ _ _ _ hza h1 h2 hf
      have hrun : (fs.mapM fun f => do pure (f.offset, ← sizeOf f.type) : Sem _).run c.P w = .ok places.toArray w := by
        rw [Array.mapM_eq_mapM_toList, Sem.run_map, mapM_run (g := fun f => do some (f.offset, ← szOf c.P f.type)) (fun f b h => by
          obtain ⟨n, hn, h⟩ := bind_some h
          cases h
          simp [rsz hn]) _ _ hpl]
        rfl
      have hplace : (fun i : Nat => (places.toArray[i]? : Option (Nat × Nat))) = (fun i : Nat => places[i]?) := by funext i; simp
      refine ⟨rfl, .agg vs', ?_, .agg hv2.1 hv2.2⟩
      simp only [execOp, ho, Instr.build, Sem.run_bind, hzr, Result.andThen_ok, ru hu, hrun]
      simp only [hmap, hplace, hv1]
      simp
    case array n el =>
      obtain ⟨sz, hsz, hc⟩ := bind_some hc
      obtain ⟨ls, hls, hc⟩ := bind_some hc
      cases hc
      simp only [LOp.run] at hr
      obtain ⟨cs', hf, hr⟩ := bind_some hr
      cases hr
      obtain ⟨h1, h2⟩ := partsOf_rel (μ := μ) (ι := ι) (w := w) (e := e) (a := a) hls hps
      obtain ⟨vs', hv1, hv2⟩ := fill_rel (place := fun i => some (i * sz, sz)) _ _ _ _ _ hza h1 h2 hf
      refine ⟨rfl, .agg vs', ?_, .agg hv2.1 hv2.2⟩
      simp only [execOp, ho, Instr.build, Sem.run_bind, hzr, Result.andThen_ok, ru hu, rsz hsz]
      simp only [hmap, hv1]
      simp

theorem look_nilchk {x : Operand} (ho : o.op = .nilCheck x) (hρ : Ho μ ι w c e a o) {y : Opd} (hy : opd c x = some y) (hr : (LOp.nilchk y).run e s = some (v, s')) : s' = s ∧ Looks μ ι w c.P a o v := by
  have hx := hρ x y (by simp [ho, Op.operands]) hy
  unfold LOp.run at hr
  dsimp only at hr
  generalize y.ev e = lv at *
  generalize hav : a.eval x = av at *
  cases hx <;> try (cases hr; done)
  case pimm vs hc hi ho1 h => cases hr; exact ⟨rfl, _, by simp only [execOp, ho, hav]; rfl, .pimm vs hc hi ho1 h⟩
  case pref hp => cases hr; exact ⟨rfl, _, by simp only [execOp, ho, hav]; rfl, .pref hp⟩
  case fn f la lb va vb h1 h2 h3 h4 =>
    cases f <;> simp only [reduceCtorEq] at hr
    cases hr
    exact ⟨rfl, _, by simp only [execOp, ho, hav]; rfl, .fn h1 h2 h3 h4⟩
  case yld hp => cases hr; exact ⟨rfl, _, by simp only [execOp, ho, hav]; rfl, .yld hp⟩

theorem strBin_rel {t : TypeId} {op : BinOp} {x y : ByteArray} (h : strBin op x y = some v) : ∃ u, (binOp op t (.string x) (.string y)).run c.P w = .ok u w ∧ Rv μ ι w v u := by
  cases op <;> simp only [strBin] at h <;> first
    | (cases h; done)
    | (split at h; cases h; rename_i h0; cases h; refine ⟨_, by simp only [binOp, Op.stringOp]; rw [if_neg h0]; rfl, by constructor⟩; done)
    | (cases h; refine ⟨_, by simp only [binOp, Op.stringOp]; rfl, by constructor⟩; done)

theorem binLV_rel {t : TypeId} {op : BinOp} {x y : LV} {u v' : Value} (hx : Rv μ ι w x u) (hy : Rv μ ι w y v') (h : binLV op x y = some v) :
    ∃ r, (binOp op t u v').run c.P w = .ok r w ∧ Rv μ ι w v r ∧ ∀ ox oy, (eqGuard op t ox oy u v').run c.P w = .ok () w := by
  cases hx <;> simp only [binLV, reduceCtorEq] at h <;> cases hy <;> simp only [binLV, reduceCtorEq] at h
  · rename_i k n k' n'
    have hg : ∀ ox oy, (eqGuard op t ox oy (.int k n) (.int k' n')).run c.P w = .ok () w := fun _ _ => by cases op <;> simp [eqGuard]
    split at h
    · split at h
      · cases h
      · rename_i h0; cases h
        exact ⟨_, by simp only [binOp, Op.shift]; rw [if_neg h0]; rfl, .int _ _, hg⟩
    · split at h
      · cases h
      · rename_i h0; cases h
        exact ⟨_, by simp only [binOp, Op.shift]; rw [if_neg h0]; rfl, .int _ _, hg⟩
    · rename_i h1 h2
      split at h
      · rename_i e; subst e
        obtain ⟨r, hr1, hr2⟩ := intBin_rel (P := c.P) (w := w) (μ := μ) (ι := ι) (t := t) h ⟨h1, h2⟩
        exact ⟨r, hr1, hr2, hg⟩
      · cases h
  · obtain ⟨r, hr1, hr2⟩ := strBin_rel (c := c) (w := w) (μ := μ) (ι := ι) (t := t) h
    exact ⟨r, hr1, hr2, fun _ _ => by cases op <;> simp [eqGuard]⟩

theorem look_bin {op : BinOp} {t t' : TypeId} {x y : Operand} (ho : o.op = .binOp op t x y t') (hρ : Ho μ ι w c e a o) {lo : LOp} (hc : compOp c o = some lo) (hr : lo.run e s = some (v, s')) :
    s' = s ∧ Looks μ ι w c.P a o v := by
  simp only [compOp, ho] at hc
  obtain ⟨lx, hlx, hc⟩ := bind_some hc
  obtain ⟨ly, hly, hc⟩ := bind_some hc
  have hx := hρ x lx (by simp [ho, Op.operands]) hlx
  have hy := hρ y ly (by simp [ho, Op.operands]) hly
  have key : (lo = .bin op lx ly) → s' = s ∧ Looks μ ι w c.P a o v := by
    rintro rfl
    simp only [LOp.run] at hr
    obtain ⟨v', h1, h2⟩ := bind_some hr
    cases h2
    obtain ⟨r, hr1, hr2, hg⟩ := binLV_rel (c := c) (t := t) hx hy h1
    refine ⟨rfl, r, ?_, hr2⟩
    simp [execOp, ho, hg, hr1]
  have key2 : ∀ et, isArith op = false → eqTy c.P t = some et → (∀ k, c.P.underlying t ≠ some (.int k)) → c.P.underlying t ≠ some .string → lo = .eq (isNeq op) et lx ly → s' = s ∧ Looks μ ι w c.P a o v := by
    rintro et ha het hni hns rfl
    simp only [LOp.run] at hr
    obtain ⟨b, h1, h2⟩ := bind_some hr
    cases h2
    have hop : op = .eql ∨ op = .neq := by cases op <;> simp [isArith] at ha ⊢
    have := eq_rel (c := c) hx hy het h1 x y op hop hni hns
    refine ⟨rfl, _, by simp only [Sem.run_bind] at this; simp only [execOp, ho, Sem.run_bind]; rw [this]; rfl, ?_⟩
    rcases hop with rfl | rfl <;> exact .bool _
  cases hu : c.P.underlying t with
  | none =>
    rw [hu] at hc
    simp only at hc
    split at hc
    · cases hc
    · rename_i hna
      obtain ⟨et, het, hc⟩ := bind_some hc
      cases hc
      exact key2 et (by simpa using hna) het (by simp [hu]) (by simp [hu]) rfl
  | some ty =>
    rw [hu] at hc
    cases ty <;> simp only at hc
    case int => cases hc; exact key rfl
    case string => cases hc; exact key rfl
    all_goals
      split at hc
      · cases hc
      · rename_i hna
        obtain ⟨et, het, hc⟩ := bind_some hc
        cases hc
        exact key2 et (by simpa using hna) het (by simp [hu]) (by simp [hu]) rfl

theorem look_un {op : UnOp} {t : TypeId} {x : Operand} (ho : o.op = .unOp op t x) (hρ : Ho μ ι w c e a o) {y : Opd} (hy : opd c x = some y) (hr : (LOp.un op y).run e s = some (v, s')) : s' = s ∧ Looks μ ι w c.P a o v := by
  have hx := hρ x y (by simp [ho, Op.operands]) hy
  simp only [LOp.run] at hr
  generalize y.ev e = lv at *
  generalize hav : a.eval x = av at *
  obtain ⟨v', h1, h2⟩ := bind_some hr
  cases h2
  cases hx <;> simp only [unLV, reduceCtorEq] at h1
  · cases op <;> simp only [reduceCtorEq] at h1
    cases h1
    exact ⟨rfl, _, by simp only [execOp, ho, hav, Op.unary]; rfl, .bool _⟩
  · cases op <;> simp only [reduceCtorEq] at h1
    cases h1
    exact ⟨rfl, _, by simp only [execOp, ho, hav, Op.unary, Op.intArith]; rfl, .int _ _⟩

end
end Go.Pv
