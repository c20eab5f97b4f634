/- Calls on known values that leave nothing behind: told once, used anywhere. -/
import Derived.Test.YtmfpcofncfhklaaPvRange
set_option linter.unusedSimpArgs false
set_option linter.unusedVariables false
namespace Go.Pv
open Go Go.RowKit

theorem closedAll_get : ∀ {l : List LV} {i : Nat}, LV.closed.closedAll l = true → i < l.length → (l.getD i .top).closed = true := by
  intro l
  induction l with
  | nil => intro i _ h; exact absurd h (Nat.not_lt_zero _)
  | cons v l ih =>
    intro i h hi
    simp only [LV.closed.closedAll, Bool.and_eq_true] at h
    cases i with
    | zero => exact h.1
    | succ i => simpa using ih h.2 (by simpa using hi)

section
variable {P : Program} {G : Globs} {w0 : Bs} {μ μ' : Mu} {ι ι' : Io} {δ : Nat → Prop} {s s' : St} {w w' : World}

theorem Rv.closed {v : LV} {x : Value} (h : Rv μ ι w v x) : v.closed = true → Rv μ' ι w v x := by
  induction h with
  | top v => intro hc; cases hc
  | bool b => intro _; exact .bool b
  | int k n => intro _; exact .int k n
  | str s => intro _; exact .str s
  | agg hl _ ih => intro hc; exact .agg hl fun i hi => ih i hi (closedAll_get hc hi)
  | tup hl _ ih => intro hc; exact .tup hl fun i hi => ih i hi (closedAll_get hc hi)
  | nilp => intro _; exact .nilp
  | pimm vs hc hi h1 _ ih => intro hcl; exact .pimm vs hc hi h1 fun i hi => ih i hi (closedAll_get hcl hi)
  | pref hp => intro hc; cases hc
  | nils => intro _; exact .nils
  | zs a => intro _; exact .zs a
  | simm vs hc hi h1 _ hlc ih => intro hcl; exact .simm vs hc hi h1 (fun i hi => ih i hi (closedAll_get hcl hi)) hlc
  | sref hp hcap hlc had => intro hc; cases hc
  | fn hl hl' _ _ ih ih' =>
    intro hc
    simp only [LV.closed, Bool.and_eq_true] at hc
    exact .fn hl hl' (fun i hi => ih i hi (closedAll_get hc.1 hi)) (fun i hi => ih' i hi (closedAll_get hc.2 hi))
  | nilf => intro _; exact .nilf
  | yld hp => intro hc; cases hc
  | ifc _ ih => intro hc; exact .ifc (ih hc)
  | nili => intro _; exact .nili
  | nilm => intro _; exact .nilm
  | mref hp => intro hc; cases hc

/-- A call on closed values: what is known of its answer, closed. -/
structure PureEx (P : Program) (G : Globs) (f : LV) (args : List LV) (R : LV → Prop) : Prop where
  cf : f.closed = true
  cargs : LV.closed.closedAll args = true
  call : CallOk P G f args St.empty (fun v s' => ∃ r s'', frz frzDepth v s' = some (r, s'') ∧ r.closed = true ∧ R r)

/-- A call on closed values: its answer, closed. -/
structure PureOk (P : Program) (G : Globs) (f : LV) (args : List LV) (r : LV) : Prop where
  cf : f.closed = true
  cargs : LV.closed.closedAll args = true
  cr : r.closed = true
  call : CallOk P G f args St.empty (fun v s' => ∃ s'', frz frzDepth v s' = some (r, s''))

theorem PureOk.ex {f r : LV} {args : List LV} (h : PureOk P G f args r) : PureEx P G f args (fun x => x = r) :=
  ⟨h.cf, h.cargs, CallOk.mono h.call fun v s' hh => by obtain ⟨s'', hf⟩ := hh; exact ⟨r, s'', hf, h.cr, rfl⟩⟩

/-- **Used in any state: it is left as it was.** -/
theorem pure_callEx (hG : ∀ x ∈ G, LV.closed.closedAll x.2 = true) {f : LV} {args : List LV} {R : LV → Prop} (h : PureEx P G f args R) {Q : LV → St → Prop} (hq : ∀ r, R r → r.closed = true → Q r s) : CallOk P G f args s Q := by
  intro w0 μ ι δ w vf vargs c cs hN hvf hvl hva
  let w0' : Bs := ⟨w, ι⟩
  let μ0 : Mu := fun _ => none
  have hN0 : Now P G w0' μ0 ι (fun _ => False) St.empty w := by
    refine ⟨⟨Below.refl _ _, fun id p hp => (by cases hp), hN.inv.io, fun id b p _ hp => (by cases hp), fun _ _ _ _ _ _ hb => (by cases hb), fun _ hr => hr.elim, fun b o hi _ => hi⟩, fun x hx => ?_⟩
    exact (hN.glob x hx).closed (by simpa [LV.closed] using hG x hx)
  obtain ⟨lv, s1, μ1, ι1, w1, v, ⟨r, s2, hfz, hcr, hR⟩, hgo, hI, hx, hk, hrv⟩ := h.call w0' μ0 ι (fun _ => False) w vf vargs c cs hN0 (hvf.closed h.cf) hvl (fun i hi => (hva i hi).closed (closedAll_get h.cargs hi))
  obtain ⟨ι2, I2, x2, rv2, _⟩ := frz_ok frzDepth lv s1 r s2 ι1 v hfz hI hrv
  have hsame : Same w w1 := Same.of_below I2.below
  have hIw := hN.inv.same hsame
  have hcell : ∀ b o, ι b o → w1.cell? ⟨b, o, none⟩ = w.cell? ⟨b, o, none⟩ := hN.inv.cell_same hsame
  have hlow : ∀ b o, ι2 b o → b < w.heap.size → ι b o := I2.low
  have hι : ∀ b o, ι b o → ι2 b o := fun b o hi => x2.io b o (hx.io b o hi)
  refine ⟨r, s, μ, ι2, w1, v, hq r hR hcr, hgo, ⟨hIw.below, hIw.dom, I2.io, fun id b p hb hp => ?_, hIw.sep, hIw.defers, fun b o hi hb => ?_⟩, ⟨fun _ _ h => h, hι, hcell, hsame.size, fun _ h => h⟩, Kept.refl _ _, rv2.closed hcr⟩
  · have hd := (hN.inv.dom id p hp).2.2
    exact (hIw.blk id b p hb hp).mono (fun _ _ h => h) hι (fun _ _ _ => rfl) rfl (fun _ i hi => hlow _ _ hi hd)
  · have hb' : b < w.heap.size := Nat.lt_of_lt_of_le hb hN.inv.hB
    exact hN.inv.low b o (hlow b o hi hb') hb

theorem pure_call (hG : ∀ x ∈ G, LV.closed.closedAll x.2 = true) {f r : LV} {args : List LV} (h : PureOk P G f args r) {Q : LV → St → Prop} (hq : Q r s) : CallOk P G f args s Q :=
  pure_callEx hG h.ex fun x hx _ => by subst hx; exact hq

/-- Arguments may be taken by value ahead of a call. -/
theorem call_frz {f : LV} {args args' : List LV} {Q : LV → St → Prop} (hfz : frz.frzAll (frz frzDepth) args s = some (args', s')) (h : CallOk P G f args' s' Q) : CallOk P G f args s Q := by
  intro w0 μ ι δ w vf vargs c cs hN hvf hvl hva
  obtain ⟨ι1, I1, x1, l1, r1, f1⟩ := frzAll_ok (frz_ok frzDepth) _ _ _ _ ι (fun i => vargs.getD i undef) hfz hN.inv hva
  obtain ⟨lv, s2, μ2, ι2, w2, v, q, hgo, I2, x2, k2, rv⟩ := h w0 μ ι1 δ w vf vargs c cs (hN.ext I1 x1) (hvf.ext x1) (by rw [l1]; exact hvl) (fun i hi => r1 i (by rw [← l1]; exact hi))
  exact ⟨lv, s2, μ2, ι2, w2, v, q, hgo, I2, x1.trans x2, (Kept.of_frz f1).trans k2, rv⟩
end
end Go.Pv
