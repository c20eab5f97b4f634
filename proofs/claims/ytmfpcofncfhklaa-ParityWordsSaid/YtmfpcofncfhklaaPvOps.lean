/- Every operation that calls nothing: the theorem. -/
import Derived.Test.YtmfpcofncfhklaaPvMaps
set_option linter.unusedSimpArgs false
set_option linter.unusedVariables false
namespace Go.Pv
open Go Go.RowKit

section
variable {P : Program} {w : World} {w0 : Bs} {μ : Mu} {ι : Io} {δ : Nat → Prop} {s s' : St} {cmp : Nat → LCode → Code → Prop} {c : Ctx} {e : Env} {a : Act} {o : Oper} {v : LV}

theorem frzTry_ok {l l' : List LV} {s s' : St} (ι : Io) (f : Nat → Value) (h : frzTry l s = (l', s')) (I : Inv cmp w0 μ ι δ s w) (hv : ∀ i, i < l.length → Rv μ ι w (l.getD i .top) (f i)) :
    ∃ ι', Inv cmp w0 μ ι' δ s' w ∧ Ext μ ι δ w μ ι' δ w ∧ l'.length = l.length ∧ (∀ i, i < l.length → Rv μ ι' w (l'.getD i .top) (f i)) ∧ FrzStep μ s s' := by
  unfold frzTry at h
  split at h
  · rename_i r hr
    subst h
    exact frzAll_ok (frz_ok frzDepth) _ _ _ _ ι f hr I hv
  · cases h
    exact ⟨ι, I, Ext.refl _ _ _ _, rfl, hv, .refl _ _⟩

theorem ok_append {x y : Operand} {t u : TypeId} (ho : o.op = .call { callee := .builtin .append, args := #[x, y], argTypes := #[t, u] }) (I : Inv cmp w0 μ ι δ s w) (hρ : Ho μ ι w c e a o) {lo : LOp} (hnew : isNewL lo = false) (hc : compAppend c x y t u = some lo)
    (hr : lo.run e s = some (v, s')) : OpOk cmp w0 μ ι δ s w c.P a o v s' := by
  unfold compAppend at hc
  cases ht : c.P.underlying t with
  | none => simp [ht] at hc
  | some ty =>
    rw [ht] at hc
    cases ty <;> simp only [reduceCtorEq] at hc
    rename_i el
    obtain ⟨d, hu, hc⟩ := bind_some hc
    obtain ⟨i, hi, hc⟩ := bind_some hc
    obtain ⟨z, hz, hc⟩ := bind_some hc
    split at hc
    · cases hc
    · rename_i hno
      simp only [not_or, ne_eq, Decidable.not_not, Bool.not_eq_false] at hno
      obtain ⟨h0, h1, h3⟩ := hno
      split at hc
      case isFalse =>
        exfalso
        split at hc
        · obtain ⟨_, _, hc⟩ := bind_some hc; obtain ⟨_, _, hc⟩ := bind_some hc; cases hc; cases hnew
        · cases hc
      rename_i h2
      obtain ⟨lx, hlx, hc⟩ := bind_some hc
      obtain ⟨ly, hly, hc⟩ := bind_some hc
      cases hc
      have hx := hρ x lx (by simp [ho, Op.operands, Call.operands]) hlx
      have hy := hρ y ly (by simp [ho, Op.operands, Call.operands]) hly
      unfold LOp.run at hr
      dsimp only at hr
      obtain ⟨n, hn, hr⟩ := bind_some hr
      obtain ⟨new0, hnew0, hr⟩ := bind_some hr
      obtain ⟨arr, ha1, ha2, ha3, ha4⟩ := rowOf_rel (P := c.P) I hy hnew0
      generalize hft : frzTry new0 s = ft at hr
      obtain ⟨new, s1⟩ := ft
      dsimp only at hr
      obtain ⟨ι1, I1, x1, l1, r1, f1⟩ := frzTry_ok ι (fun j => arr.getD j undef) hft I ha2.2
      have hl := lenOf_rel (w := w) hy hn
      obtain ⟨r, w', μ', ι', hrun, I2, x2, rv, k2⟩ := app_sound (ty := o.type) ht hu h2 hi h0 h1 hz h3 I1 (hx.ext x1) hl (new := new) (arr := arr) ha1 ⟨by rw [ha2.1, l1], fun j hj => r1 j (by rw [← l1]; exact hj)⟩ ha3 (by rw [l1]; exact ha4) hr
      refine ⟨r, w', μ', ι', .inl ?_, I2, x1.trans x2, rv, (Kept.of_frz f1).trans k2⟩
      simp only [execOp, ho, resolve, Sem.run_bind, Sem.run_pure, Result.andThen_ok, invoke, builtin, List.map_toArray, List.map_cons, List.map_nil]
      have := hrun
      unfold AppRun at this
      rw [this]; rfl


theorem minInt (n len : Nat) : Nat.min n len = min n len := rfl

theorem ok_copy {x y : Operand} {t u : TypeId} (ho : o.op = .call { callee := .builtin .copy, args := #[x, y], argTypes := #[t, u] }) (I : Inv cmp w0 μ ι δ s w) (hρ : Ho μ ι w c e a o) {lo : LOp} (hc : compCopy c x y t = some lo)
    (hr : lo.run e s = some (v, s')) : OpOk cmp w0 μ ι δ s w c.P a o v s' := by
  unfold compCopy at hc
  cases ht : c.P.underlying t with
  | none => simp [ht] at hc
  | some ty =>
    rw [ht] at hc
    cases ty <;> simp only [reduceCtorEq] at hc
    rename_i el
    obtain ⟨sz, hsz, hc⟩ := bind_some hc
    obtain ⟨lx, hlx, hc⟩ := bind_some hc
    obtain ⟨ly, hly, hc⟩ := bind_some hc
    cases hc
    have hx := hρ x lx (by simp [ho, Op.operands, Call.operands]) hlx
    have hy := hρ y ly (by simp [ho, Op.operands, Call.operands]) hly
    unfold LOp.run at hr
    dsimp only at hr
    obtain ⟨n, hn, hr'⟩ := bind_some hr
    clear hr
    have hr := hr'
    clear hr'
    have hl := lenOf_rel (w := w) hy hn
    generalize lx.ev e = vx at *
    generalize hav : a.eval x = ax at *
    generalize hbv : a.eval y = ay at *
    have hexec : ∀ {r : Value} {w' : World}, (Builtin.copy_ #[t, u] o.type #[ax, ay]).run c.P w = .ok r w' → (execOp a.eval o).run c.P w = .ok (.value r) w' := fun h => by
      simp only [execOp, ho, resolve, Sem.run_bind, Sem.run_pure, Result.andThen_ok, invoke, builtin, List.map_toArray, List.map_cons, List.map_nil, hav, hbv, h]
    cases hx <;> try (cases hr; done)
    case nils =>
      cases hr
      refine ⟨.int .i64 0, w, μ, ι, .inl (hexec ?_), I, Ext.refl _ _ _ _, .int _ _, Kept.refl _ _⟩
      obtain ⟨arr, h1, _⟩ : ∃ arr, (Builtin.firstCells sz 0 ay).run c.P w = .ok arr w ∧ True := by
        generalize hly' : ly.ev e = vy at *
        cases hy <;> simp only [lenLV, reduceCtorEq] at hn <;> first
          | exact ⟨_, by simp [Builtin.firstCells]; rfl, trivial⟩
          | exact ⟨#[], by simp [Builtin.firstCells, loadCells, loadCellsFrom], trivial⟩
      simp only [Builtin.copy_]
      simp [ru ht, hl, rsz hsz, h1, goInt]
    case sref =>
      rename_i id off len es cap p off' hp hcap hlc had
      dsimp only at hr
      obtain ⟨new, hnew, hr'⟩ := bind_some hr
      clear hr
      have hr := hr'
      clear hr'
      split at hr
      · rename_i cs hg
        split at hr
        · rename_i hb
          obtain ⟨hes, hin⟩ := hb
          subst hes
          simp only [Option.some.injEq, Prod.mk.injEq] at hr
          obtain ⟨rfl, rfl⟩ := hr
          obtain ⟨arr, ha1, ha2, ha3, ha4⟩ := rowOf_rel (P := c.P) I hy hnew
          obtain ⟨_, k1, k2, k3, _, _, _⟩ := I.blk id _ p hg hp
          have hmin : min n len ≤ len := Nat.min_le_right _ _
          have hmul : min n len * es ≤ len * es := Nat.mul_le_mul_right _ hmin
          have harr : arr.toList.length = new.length := by simpa using ha2.1
          have hoff : ∀ {j}, j < new.length → off' = off := fun {j} hj => had (by
            rintro rfl
            have : len = 0 := by omega
            subst this
            rw [ha4] at hj
            simp at hj)
          have hgd : ∀ j, arr.toList.getD j undef = arr.getD j undef := fun j => by simp [List.getD_eq_getElem?_getD, Array.getD_eq_getD_getElem?]
          obtain ⟨w', hw', W⟩ := run_storeCells (P := c.P) p.b (p.off + off') arr.toList 0 w (fun y hy => by
              obtain ⟨j, hj, rfl⟩ := List.getElem_of_mem hy
              have hj' : j < arr.size := by simpa using hj
              have := ha3 j hj'
              simpa [Array.getD_eq_getD_getElem?, hj'] using this) (fun j hj => by
              rw [harr] at hj
              obtain ⟨u, hu, _⟩ := k2 (off + j) (by omega)
              exact ⟨u, by rw [← hu, hoff hj]; congr 2; omega⟩) (fun j hj => by
              rw [harr] at hj
              have := k3 (off + j) (by omega)
              rw [← this, hoff hj]; congr 2; omega)
          rw [Nat.add_zero] at W
          have W' : Wrote p.b (p.off + off) arr.toList w w' := by
            by_cases h0 : new.length = 0
            · have hnil : arr.toList = [] := List.length_eq_zero_iff.1 (by rw [harr, h0])
              rw [hnil] at W ⊢
              exact ⟨W.os, W.tape, W.output, W.size, W.block, fun i hi => absurd hi (Nat.not_lt_zero _), fun a _ => W.miss a (by simp; omega), W.frozen, W.shape⟩
            · have := hoff (j := 0) (by omega)
              subst this; exact W
          obtain ⟨I', x'⟩ := I.write hg hp new arr.toList harr (by omega) (fun j hj => by rw [hgd]; exact ha2.2 j hj) (fun j hj => by rw [hgd]; exact ha3 j (by simpa using hj)) W'
          refine ⟨.int .i64 (min n len : Nat), w', μ, ι, .inl (hexec ?_), I', x', .int _ _, Kept.put hp _⟩
          have hfc := ha1 w (Same.refl w)
          simp only [Builtin.copy_]
          simp [ru ht, hl, rsz hsz, minInt, hfc, goInt, hw']
        · cases hr
      · cases hr

/-- **Every operation that calls nothing.** -/
theorem op_sound {lo : LOp} (hc : compOp c o = some lo) (hρ : Ho μ ι w c e a o) (I : Inv cmp w0 μ ι δ s w) (hr : lo.run e s = some (v, s')) : OpOk cmp w0 μ ι δ s w c.P a o v s' := by
  cases hnew : isNewL lo with
  | true => exact new_sound hnew hc hρ I hr
  | false =>
  by_cases hl : Op.looks o.op = true
  · obtain ⟨rfl, h⟩ := look_sound hl hc hρ I hnew hr
    exact ok_look I h
  · by_cases hm : Op.makes o.op = true
    · by_cases hrow : isRow lo = true
      · exact ok_row I hm hrow hc hρ hr
      · cases ho : o.op <;> rw [ho] at hm <;> (try (cases hm; done)) <;> have hc' := hc <;> simp only [compOp, ho, reduceCtorEq] at hc
        case alloc t => obtain ⟨z, hz, hc⟩ := bind_some hc; cases hc; exact absurd rfl hrow
        case box t x =>
          obtain ⟨y, hy, hc⟩ := bind_some hc
          cases hc
          cases hb : boxIm c o <;> rw [hb] at hr hrow
          · exact absurd rfl hrow
          · exact ok_box ho I hρ hy hr
        case buildSlice t len ps =>
          cases hu : c.P.underlying t with
          | none => simp [hu] at hc
          | some ty =>
            rw [hu] at hc
            cases ty <;> simp only [reduceCtorEq] at hc
            obtain ⟨sz, hsz, hc⟩ := bind_some hc
            obtain ⟨z, hz, hc⟩ := bind_some hc
            split at hc
            · cases hc
            · obtain ⟨ls, hls, hc⟩ := bind_some hc
              cases hc
              exact absurd rfl hrow
        case makeSlice t l k =>
          cases hu : c.P.underlying t with
          | none => simp [hu] at hc
          | some ty =>
            rw [hu] at hc
            cases ty <;> simp only [reduceCtorEq] at hc
            obtain ⟨i, hi, hc⟩ := bind_some hc
            obtain ⟨z, hz, hc⟩ := bind_some hc
            split at hc
            · cases hc
            · obtain ⟨ll, hll, hc⟩ := bind_some hc
              obtain ⟨lk, hlk, hc⟩ := bind_some hc
              cases hc
              exact absurd rfl hrow
    · cases ho : o.op <;> rw [ho] at hl hm <;> simp only [Op.looks, Op.makes, not_true_eq_false] at hl hm <;> (try (simp only [compOp, ho, reduceCtorEq] at hc; done)) <;> simp only [compOp, ho] at hc
      case range t x =>
        exfalso
        split at hc
        · obtain ⟨_, _, hc⟩ := bind_some hc; cases hc; cases hnew
        · cases hc
      case entry x =>
        exfalso
        obtain ⟨_, _, rfl⟩ := map_some' hc
        cases hnew
      case next x b =>
        exfalso
        cases b <;> simp only [compOp, ho, reduceCtorEq] at hc
        obtain ⟨_, _, rfl⟩ := map_some' hc
        cases hr
      case makeMap t x =>
        exfalso
        split at hc
        · obtain ⟨_, _, hc⟩ := bind_some hc; cases hc; cases hnew
        · cases hc
      case lookup t m k ok =>
        exfalso
        split at hc
        · obtain ⟨_, _, hc⟩ := bind_some hc; obtain ⟨_, _, hc⟩ := bind_some hc; obtain ⟨_, _, hc⟩ := bind_some hc; obtain ⟨_, _, hc⟩ := bind_some hc; obtain ⟨_, _, hc⟩ := bind_some hc; cases hc; cases hnew
        · cases hc
      case mapUpdate t m k x =>
        exfalso
        split at hc
        · obtain ⟨_, _, hc⟩ := bind_some hc; obtain ⟨_, _, hc⟩ := bind_some hc; obtain ⟨_, _, hc⟩ := bind_some hc; obtain ⟨_, _, hc⟩ := bind_some hc; cases hc; cases hnew
        · cases hc
      case store t x y =>
        obtain ⟨n, hn, hc⟩ := bind_some hc; obtain ⟨lx, hlx, hc⟩ := bind_some hc; obtain ⟨ly, hly, hc⟩ := bind_some hc; cases hc
        exact ok_store ho I hρ hn hlx hly hr
      case call cl =>
        obtain ⟨cal, as, ts⟩ := cl
        cases cal <;> dsimp only at hc <;> try (cases hc; done)
        case value f =>
          obtain ⟨lf, hlf, hc⟩ := bind_some hc; obtain ⟨las, hlas, hc⟩ := bind_some hc; cases hc
          cases hr
        case builtin b =>
          unfold compBuiltin at hc
          rcases has : as.toList with _ | ⟨x, _ | ⟨y, _ | ⟨z, xs⟩⟩⟩ <;> rcases hts : ts.toList with _ | ⟨t, _ | ⟨u, _ | ⟨t3, tl⟩⟩⟩ <;> rw [has, hts] at hc <;> cases b <;> (try (cases hc; done)) <;> (try (exact absurd rfl hl)) 
          case append =>
            have h1 : as = #[x, y] := by apply Array.ext'; simpa using has
            have h2 : ts = #[t, u] := by apply Array.ext'; simpa using hts
            subst h1; subst h2
            exact ok_append ho I hρ hnew hc hr
          case copy =>
            have h1 : as = #[x, y] := by apply Array.ext'; simpa using has
            have h2 : ts = #[t, u] := by apply Array.ext'; simpa using hts
            subst h1; subst h2
            exact ok_copy ho I hρ hc hr
          case cap =>
            exfalso
            simp only at hc
            unfold compCap at hc
            split at hc
            · obtain ⟨_, _, hc⟩ := bind_some hc; cases hc; cases hnew
            · cases hc

end
end Go.Pv
