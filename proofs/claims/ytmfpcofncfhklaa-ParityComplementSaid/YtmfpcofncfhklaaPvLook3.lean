/- Operations that only look: the theorem. -/
import Derived.Test.YtmfpcofncfhklaaPvLook2
import Derived.Laws.StructEq
set_option linter.unusedSimpArgs false
namespace Go.Pv
open Go Go.RowKit

section
variable {w : World} {w0 : Bs} {μ : Mu} {ι : Io} {δ : Nat → Prop} {s s' : St} {cmp : Nat → LCode → Code → Prop} {c : Ctx} {e : Env} {a : Act}

theorem bind_some {α β : Type} {x : Option α} {f : α → Option β} {b : β} (h : (x >>= f) = some b) : ∃ a, x = some a ∧ f a = some b := by
  cases x with
  | none => cases h
  | some a => exact ⟨a, rfl, h⟩
theorem map_some' {α β : Type} {x : Option α} {f : α → β} {b : β} (h : x.map f = some b) : ∃ a, x = some a ∧ f a = b := by
  cases x with
  | none => cases h
  | some a => exact ⟨a, rfl, by simpa using h⟩

/-- What the operands of an operation stand for. -/
def Ho (μ : Mu) (ι : Io) (w : World) (c : Ctx) (e : Env) (a : Act) (o : Oper) : Prop := ∀ x y, x ∈ o.op.operands.toList → opd c x = some y → Rv μ ι w (y.ev e) (a.eval x)

def Looks (μ : Mu) (ι : Io) (w : World) (P : Program) (a : Act) (o : Oper) (v : LV) : Prop := ∃ x, (execOp a.eval o).run P w = .ok (.value x) w ∧ Rv μ ι w v x

theorem look_load (I : Inv cmp w0 μ ι δ s w) {o : Oper} {t : TypeId} {x : Operand} (ho : o.op = .load t x) (hρ : Ho μ ι w c e a o) {n : Option Nat} (hn : aggOf c.P t = some n) {y : Opd} (hy : opd c x = some y)
    {v : LV} (hr : (LOp.load n y).run e s = some (v, s')) : s' = s ∧ Looks μ ι w c.P a o v := by
  have hx := hρ x y (by simp [ho, Op.operands]) hy
  simp only [LOp.run] at hr
  generalize y.ev e = lv at *
  generalize hav : a.eval x = av at *
  cases hx <;> simp only at hr <;> try (cases hr; done)
  · rename_i vs hc hi ho1 h
    obtain ⟨v', h1, h2⟩ := bind_some hr
    cases h2
    obtain ⟨u, hu, hru⟩ := loadVar_rel (w := w) hn (fun i hi => ⟨_, hc i hi, h i hi⟩) h1
    refine ⟨rfl, u, ?_, hru⟩
    simp [execOp, ho, hav, Instr.loadAt, Instr.sureAddr, hu]
  · rename_i hp
    split at hr
    · rename_i m cs hg
      obtain ⟨v', h1, h2⟩ := bind_some hr
      cases h2
      obtain ⟨u, hu, hru⟩ := loadVar_rel (w := w) hn (I.cellsAt hg hp) h1
      refine ⟨rfl, u, ?_, hru⟩
      simp [execOp, ho, hav, Instr.loadAt, Instr.sureAddr, hu]
    · cases hr

theorem scEq_rel {t : TypeId} {et : EqTy} {x y : LV} {u v : Value} {b : Bool} (hx : Rv μ ι w x u) (hy : Rv μ ι w y v) (h : scEq et x y = some b) (ht : scTy c.P t = some et) (d : Nat) :
    (Op.equalIn (d + 1) t u v).run c.P w = .ok b w := by
  unfold scTy at ht
  cases hu : c.P.underlying t with
  | none => simp [hu] at ht
  | some ty =>
    rw [hu] at ht
    cases ty <;> simp only [Option.some.injEq, reduceCtorEq] at ht <;> subst ht <;> cases hx <;> simp only [scEq, reduceCtorEq] at h <;> cases hy <;> simp only [scEq, reduceCtorEq] at h
    · cases h; simp [Op.equalIn, ru hu]
    · split at h
      · cases h; rename_i e; subst e; simp [Op.equalIn, ru hu]
      · cases h
    · cases h; simp [Op.equalIn, ru hu]


theorem scTy_part {t : TypeId} {et : EqTy} (h : scTy c.P t = some et) : (isAgg t).run c.P w = .ok false w := by
  unfold scTy at h
  cases hu : c.P.underlying t with
  | none => simp [hu] at h
  | some ty =>
    rw [hu] at h
    cases ty <;> simp only [Option.some.injEq, reduceCtorEq] at h <;> simp [isAgg, ru hu]

theorem eqFields_rel (d : Nat) {xs ys : List LV} {us vs : Array Value} (hx : Ra μ ι w xs us) (hy : Ra μ ι w ys vs) : ∀ (fs : List Field) (es : List (Nat × Nat × EqTy)) (b : Bool),
    fs.all (fun f => f.name != "_") = true → fs.mapM (fun f => (scTy c.P f.type).map fun e => (f.offset, 1, e)) = some es → eqLV.eqFields es xs ys = some b →
    (Op.eqFields (d + 1) us vs fs).run c.P w = .ok b w := by
  intro fs
  induction fs with
  | nil => intro es b _ hm he; simp at hm; subst hm; simp [eqLV.eqFields] at he; subst he; rfl
  | cons f fs ih =>
    intro es b ha hm he
    rw [List.mapM_cons] at hm
    cases hs : scTy c.P f.type with
    | none => simp [hs] at hm
    | some et =>
      cases hl : fs.mapM (fun f => (scTy c.P f.type).map fun e => (f.offset, 1, e)) with
      | none => simp [hs, hl] at hm
      | some es' =>
        simp [hs, hl] at hm
        subst hm
        simp only [eqLV.eqFields] at he
        split at he
        · rename_i x y gx gy
          obtain ⟨lx, rfl⟩ := List.getElem?_eq_some_iff.1 gx
          obtain ⟨ly, rfl⟩ := List.getElem?_eq_some_iff.1 gy
          have rx := hx.2 _ lx
          have ry := hy.2 _ ly
          have lx' : f.offset < us.size := by rw [hx.1]; exact lx
          have ly' : f.offset < vs.size := by rw [hy.1]; exact ly
          simp only [List.getD_eq_getElem?_getD, lx, List.getElem?_eq_getElem, Option.getD_some, Array.getD_eq_getD_getElem?, lx', Array.getElem?_eq_getElem] at rx
          simp only [List.getD_eq_getElem?_getD, ly, List.getElem?_eq_getElem, Option.getD_some, Array.getD_eq_getD_getElem?, ly', Array.getElem?_eq_getElem] at ry
          simp only [List.all_cons, Bool.and_eq_true, bne_iff_ne, ne_eq] at ha
          have hp1 : (part f.type us f.offset).run c.P w = .ok us[f.offset] w := by simp [part, scTy_part hs, lx']
          have hp2 : (part f.type vs f.offset).run c.P w = .ok vs[f.offset] w := by simp [part, scTy_part hs, ly']
          split at he
          · rename_i hsc
            have := scEq_rel (c := c) rx ry hsc hs d
            simp [Op.eqFields, ha.1, hp1, hp2, this]
            exact ih es' b ha.2 hl he
          · rename_i hsc
            cases he
            have := scEq_rel (c := c) rx ry hsc hs d
            simp [Op.eqFields, ha.1, hp1, hp2, this]
          · cases he
        · cases he

theorem equal_run {t : TypeId} {u v : Value} {b : Bool} (h : (Op.equalIn 10000 t u v).run c.P w = .ok b w) : (Op.equal t u v).run c.P w = .ok b w := h

theorem eq_step {t : TypeId} {u v : Value} {b : Bool} (n : Nat) (h : ∀ d, (Op.equalIn (d + 1) t u v).run c.P w = .ok b w) : (Op.equalIn (n + 1) t u v).run c.P w = .ok b w := h n

theorem eq_close {t : TypeId} {u v : Value} {b : Bool} {ox oy : Operand} {op : BinOp} (hop : op = .eql ∨ op = .neq) (hg : (eqGuard op t ox oy u v).run c.P w = .ok () w)
    (h1 : binOp .eql t u v = (do pure (.bool (← Op.equal t u v)))) (h2 : binOp .neq t u v = (do pure (.bool (!(← Op.equal t u v))))) (h : (Op.equalIn 10000 t u v).run c.P w = .ok b w) :
    ((do eqGuard op t ox oy u v; binOp op t u v) : Sem Value).run c.P w = .ok (.bool (if op = .eql then b else !b)) w := by
  rcases hop with rfl | rfl
  · rw [Sem.run_bind, hg, Result.andThen_ok, h1, Sem.run_bind, equal_run h]; rfl
  · rw [Sem.run_bind, hg, Result.andThen_ok, h2, Sem.run_bind, equal_run h]; rfl

set_option maxHeartbeats 2000000 in
theorem eq_rel {t : TypeId} {et : EqTy} {x y : LV} {u v : Value} {b : Bool} (hx : Rv μ ι w x u) (hy : Rv μ ι w y v) (ht : eqTy c.P t = some et) (h : eqLV et x y = some b) (ox oy : Operand) (op : BinOp) (hop : op = .eql ∨ op = .neq)
    (hni : ∀ k, c.P.underlying t ≠ some (.int k)) (hns : c.P.underlying t ≠ some .string) :
    ((do eqGuard op t ox oy u v; binOp op t u v) : Sem Value).run c.P w = .ok (.bool (if op = .eql then b else !b)) w := by
  unfold eqTy at ht
  cases hu : c.P.underlying t with
  | none => simp [hu] at ht
  | some ty =>
    rw [hu] at ht
    cases ty <;> simp only [reduceCtorEq] at ht
    case int k => exact absurd hu (hni k)
    case string => exact absurd hu hns
    case bool =>
      have ht' := ht
      unfold scTy at ht'
      rw [hu] at ht'
      simp only [Option.some.injEq] at ht'
      subst ht'
      cases hx <;> simp only [eqLV, scEq, reduceCtorEq] at h <;> cases hy <;> simp only [eqLV, scEq, reduceCtorEq] at h
      cases h
      exact eq_close hop (by rcases hop with rfl | rfl <;> simp [eqGuard]) rfl rfl (eq_step 9999 (by intro d; unfold Op.equalIn; simp [ru hu]))
    case struct fs =>
      split at ht
      · cases ht
      · rename_i hns
        simp only [Bool.or_eq_true, not_or, Bool.not_eq_true] at hns
        split at ht
        · rename_i hall
          obtain ⟨es, hes, rfl⟩ := map_some' ht
          cases hx <;> simp only [eqLV, scEq, reduceCtorEq] at h <;> cases hy <;> simp only [eqLV, scEq, reduceCtorEq] at h
          rename_i xs us hlx hrx ys vs hly hry
          have hf : c.P.fieldsOf t = fs := by simp [Program.fieldsOf, hu]
          have hrun := run_equalIn_struct (P := c.P) w 9999 t us vs (by rw [hf]; exact hu) hns.1
          rw [hf, eqFields_rel (c := c) 9998 ⟨hlx, hrx⟩ ⟨hly, hry⟩ fs.toList es b hall hes h] at hrun
          exact eq_close hop (run_eqGuard_agg w _ _ _ _ _ _ hns.2) rfl rfl hrun
        · cases ht
    all_goals
      cases ht
      cases hx <;> simp only [eqLV, scEq, reduceCtorEq] at h <;> cases hy <;> simp only [eqLV, scEq, reduceCtorEq] at h <;> cases h <;>
        exact eq_close hop (by rcases hop with rfl | rfl <;> simp [eqGuard]) rfl rfl (eq_step 9999 (by intro d; unfold Op.equalIn; simp [ru hu]))

end
end Go.Pv
