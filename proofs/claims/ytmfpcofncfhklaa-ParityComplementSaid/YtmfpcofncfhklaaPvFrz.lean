/- Taking values by value: 'frz' turns nothing in the world. -/
import Derived.Test.YtmfpcofncfhklaaPvAlloc
set_option linter.unusedSimpArgs false
namespace Go.Pv
open Go Go.RowKit

section
variable {w : World} {w0 : Bs} {μ : Mu} {ι : Io} {δ : Nat → Prop} {s s' : St} {cmp : Nat → LCode → Code → Prop}

structure FrzStep (μ : Mu) (s s' : St) : Prop where
  n : s'.n = s.n
  cells : ∀ id m cs, s.get id = some (.cells m cs) → ∃ m' cs', s'.get id = some (.cells m' cs') ∧ cs'.length = cs.length ∧ (m' = m ∨ (m = .mut ∧ m' = .app))
  kept : ∀ id, μ id = none → s'.get id = s.get id

theorem FrzStep.refl (μ : Mu) (s : St) : FrzStep μ s s := ⟨rfl, fun _ m cs h => ⟨m, cs, h, rfl, .inl rfl⟩, fun _ _ => rfl⟩
theorem FrzStep.trans {μ : Mu} {s s' s'' : St} (h : FrzStep μ s s') (k : FrzStep μ s' s'') : FrzStep μ s s'' := by
  refine ⟨k.n.trans h.n, fun id m cs hg => ?_, fun id hm => (k.kept id hm).trans (h.kept id hm)⟩
  obtain ⟨m1, c1, g1, l1, e1⟩ := h.cells id m cs hg
  obtain ⟨m2, c2, g2, l2, e2⟩ := k.cells id m1 c1 g1
  refine ⟨m2, c2, g2, l2.trans l1, ?_⟩
  rcases e1 with rfl | ⟨rfl, rfl⟩ <;> rcases e2 with rfl | ⟨h1, rfl⟩
  · exact .inl rfl
  · exact .inr ⟨h1, rfl⟩
  · exact .inr ⟨rfl, rfl⟩
  · cases h1

def FrzOk (cmp : Nat → LCode → Code → Prop) (w0 : Bs) (μ : Mu) (δ : Nat → Prop) (w : World) (f : LV → St → Option (LV × St)) : Prop :=
  ∀ (v : LV) (s : St) (v' : LV) (s' : St) (ι : Io) (x : Value), f v s = some (v', s') → Inv cmp w0 μ ι δ s w → Rv μ ι w v x →
    ∃ ι', Inv cmp w0 μ ι' δ s' w ∧ Ext μ ι δ w μ ι' δ w ∧ Rv μ ι' w v' x ∧ FrzStep μ s s'

theorem frzAll_ok {f : LV → St → Option (LV × St)} (hf : FrzOk cmp w0 μ δ w f) : ∀ (cs : List LV) (s : St) (cs' : List LV) (s' : St) (ι : Io) (xs : Nat → Value),
    frz.frzAll f cs s = some (cs', s') → Inv cmp w0 μ ι δ s w → (∀ i, i < cs.length → Rv μ ι w (cs.getD i .top) (xs i)) →
    ∃ ι', Inv cmp w0 μ ι' δ s' w ∧ Ext μ ι δ w μ ι' δ w ∧ cs'.length = cs.length ∧ (∀ i, i < cs.length → Rv μ ι' w (cs'.getD i .top) (xs i)) ∧ FrzStep μ s s' := by
  intro cs
  induction cs with
  | nil =>
    intro s cs' s' ι xs h I _
    cases h
    exact ⟨ι, I, Ext.refl _ _ _ _, rfl, fun i hi => absurd hi (Nat.not_lt_zero _), FrzStep.refl _ _⟩
  | cons v cs ih =>
    intro s cs' s' ι xs h I hr
    simp only [frz.frzAll] at h
    obtain ⟨⟨v1, s1⟩, h1, h⟩ := bind_some h
    obtain ⟨⟨r2, s2⟩, h2, h⟩ := bind_some h
    cases h
    obtain ⟨ι1, I1, x1, rv1, f1⟩ := hf v s v1 s1 ι (xs 0) h1 I (by simpa using hr 0 (by simp))
    obtain ⟨ι2, I2, x2, l2, rv2, f2⟩ := ih s1 r2 s2 ι1 (fun i => xs (i + 1)) h2 I1 (fun i hi => (by simpa using hr (i + 1) (by simpa using hi) : Rv μ ι w (cs.getD i .top) (xs (i + 1))).ext x1)
    refine ⟨ι2, I2, x1.trans x2, by simp [l2], fun i hi => ?_, f1.trans f2⟩
    cases i with
    | zero => simpa using rv1.ext x2
    | succ i => simpa using rv2 i (by simpa using hi)

theorem frz_ok : ∀ n, FrzOk cmp w0 μ δ w (frz n) := by
  intro n
  induction n with
  | zero => intro v s v' s' ι x h; cases h
  | succ n ih =>
    intro v s v' s' ι x h I hv
    simp only [frz] at h
    split at h
    · cases h; exact ⟨ι, I, Ext.refl _ _ _ _, hv, FrzStep.refl _ _⟩
    · rename_i hnc
      clear hnc
      cases hv <;> simp only [reduceCtorEq] at h
      case agg cs vs hl hr =>
        obtain ⟨⟨cs', s1⟩, h1, h⟩ := bind_some h
        cases h
        obtain ⟨ι1, I1, x1, l1, rv1, f1⟩ := frzAll_ok ih cs s cs' s1 ι (fun i => vs.getD i undef) h1 I hr
        exact ⟨ι1, I1, x1, .agg (by rw [hl, l1]) (fun i hi => rv1 i (by rw [← l1]; exact hi)), f1⟩
      case tup cs vs hl hr =>
        obtain ⟨⟨cs', s1⟩, h1, h⟩ := bind_some h
        cases h
        obtain ⟨ι1, I1, x1, l1, rv1, f1⟩ := frzAll_ok ih cs s cs' s1 ι (fun i => vs.getD i undef) h1 I hr
        exact ⟨ι1, I1, x1, .tup (by rw [hl, l1]) (fun i hi => rv1 i (by rw [← l1]; exact hi)), f1⟩
      case ifc t v x hv =>
        obtain ⟨⟨v1, s1⟩, h1, h⟩ := bind_some h
        cases h
        obtain ⟨ι1, I1, x1, rv1, f1⟩ := ih v s v1 s1 ι x h1 I hv
        exact ⟨ι1, I1, x1, .ifc rv1, f1⟩
      case fn f la lb va vb hl hl' hr hr' =>
        obtain ⟨⟨la', s1⟩, h1, h⟩ := bind_some h
        obtain ⟨⟨lb', s2⟩, h2, h⟩ := bind_some h
        cases h
        obtain ⟨ι1, I1, x1, l1, rv1, f1⟩ := frzAll_ok ih la s la' s1 ι (fun i => va.getD i undef) h1 I hr
        obtain ⟨ι2, I2, x2, l2, rv2, f2⟩ := frzAll_ok ih lb s1 lb' s2 ι1 (fun i => vb.getD i undef) h2 I1 (fun i hi => (hr' i hi).ext x1)
        exact ⟨ι2, I2, x1.trans x2, .fn (by rw [hl, l1]) (by rw [hl', l2]) (fun i hi => (rv1 i (by rw [← l1]; exact hi)).ext x2) (fun i hi => rv2 i (by rw [← l2]; exact hi)), f1.trans f2⟩
      case sref id off len esz cap p off' hp hcap hlc had =>
        split at h
        · rename_i m cs hg
          split at h
          · rename_i hin
            obtain ⟨⟨cs', s1⟩, h1, h⟩ := bind_some h
            cases h
            have hch := I.cellsAt1 hg hp
            have hch' : ∀ i, ∃ x, i < cs.length → (w.cell? ⟨p.b, p.off + i, none⟩ = some x ∧ x.oneCell' = true ∧ Rv μ ι w (cs.getD i .top) x) := fun i => by
              by_cases hi : i < cs.length
              · obtain ⟨x, hx⟩ := hch i hi; exact ⟨x, fun _ => hx⟩
              · exact ⟨undef, fun h => absurd h hi⟩
            let f : Nat → Value := fun i => Classical.choose (hch' i)
            have hf : ∀ i, i < cs.length → (w.cell? ⟨p.b, p.off + i, none⟩ = some (f i) ∧ (f i).oneCell' = true ∧ Rv μ ι w (cs.getD i .top) (f i)) := fun i hi => Classical.choose_spec (hch' i) hi
            obtain ⟨ι1, I1, x1, l1, rv1, f1⟩ := frzAll_ok ih cs s cs' s1 ι f h1 I (fun i hi => (hf i hi).2.2)
            obtain ⟨m1, c1, g1, lc1, e1⟩ := f1.cells id m cs hg
            obtain ⟨ι2, I2, x2, hio⟩ := I1.recell (m' := if m = .mut then .app else m) (cs' := cs') g1 hp (by rw [l1, lc1]) (by
              rcases e1 with rfl | ⟨rfl, rfl⟩
              · by_cases hm : m1 = .mut
                · subst hm; exact .inr ⟨rfl, rfl⟩
                · rw [if_neg hm]; exact .inl rfl
              · exact .inl rfl) (fun i x hi hx => by
              have := hf i (by rw [← lc1]; exact hi)
              rw [this.1] at hx
              cases hx
              exact rv1 i (by rw [← lc1]; exact hi))
            have hlen : ((cs'.drop off).take (len * esz)).length = len * esz := by simp; omega
            refine ⟨ι2, I2, x1.trans x2, ?_, f1.trans ⟨rfl, fun id' m' c' g' => ?_, fun id' hm => ?_⟩⟩
            · refine .simm (fun i => f (off + i)) (fun i hi => ?_) (fun i hi => ?_) (fun i hi => ?_) (fun i hi => ?_) hlc <;> rw [hlen] at hi
              · have hc0 : cap ≠ 0 := by rintro rfl; have : len = 0 := by omega
                                         subst this; simp at hi
                rw [had hc0, Nat.add_assoc]
                exact (hf _ (by omega)).1
              · have hc0 : cap ≠ 0 := by rintro rfl; have : len = 0 := by omega
                                         subst this; simp at hi
                rw [had hc0, Nat.add_assoc]
                exact hio (by cases m <;> simp) _ (by omega)
              · exact (hf _ (by omega)).2.1
              · rw [getD_drop_take _ _ _ _ hi]
                exact (rv1 _ (by omega)).ext x2
            · rw [St.get_put]
              by_cases e : id' = id
              · subst e
                rw [g1] at g'
                cases g'
                refine ⟨_, _, if_pos rfl, by rw [l1, lc1], ?_⟩
                rcases e1 with rfl | ⟨rfl, rfl⟩
                · by_cases hm : m1 = .mut
                  · subst hm; exact .inr ⟨rfl, rfl⟩
                  · rw [if_neg hm]; exact .inl rfl
                · exact .inl rfl
              · exact ⟨m', c', by rw [if_neg e]; exact g', rfl, .inl rfl⟩
            · rw [St.get_put, if_neg]
              rintro rfl
              rw [hp] at hm
              cases hm
          · cases h
        · cases h
      case pref id off p hp =>
        split at h
        · rename_i m cs hg
          split at h
          · rename_i hin
            obtain ⟨⟨cs', s1⟩, h1, h⟩ := bind_some h
            cases h
            have hch := I.cellsAt1 hg hp
            have hch' : ∀ i, ∃ x, i < cs.length → (w.cell? ⟨p.b, p.off + i, none⟩ = some x ∧ x.oneCell' = true ∧ Rv μ ι w (cs.getD i .top) x) := fun i => by
              by_cases hi : i < cs.length
              · obtain ⟨x, hx⟩ := hch i hi; exact ⟨x, fun _ => hx⟩
              · exact ⟨undef, fun h => absurd h hi⟩
            let f : Nat → Value := fun i => Classical.choose (hch' i)
            have hf : ∀ i, i < cs.length → (w.cell? ⟨p.b, p.off + i, none⟩ = some (f i) ∧ (f i).oneCell' = true ∧ Rv μ ι w (cs.getD i .top) (f i)) := fun i hi => Classical.choose_spec (hch' i) hi
            obtain ⟨ι1, I1, x1, l1, rv1, f1⟩ := frzAll_ok ih cs s cs' s1 ι f h1 I (fun i hi => (hf i hi).2.2)
            obtain ⟨m1, c1, g1, lc1, e1⟩ := f1.cells id m cs hg
            obtain ⟨ι2, I2, x2, hio⟩ := I1.recell (m' := if m = .mut then .app else m) (cs' := cs') g1 hp (by rw [l1, lc1]) (by
              rcases e1 with rfl | ⟨rfl, rfl⟩
              · by_cases hm : m1 = .mut
                · subst hm; exact .inr ⟨rfl, rfl⟩
                · rw [if_neg hm]; exact .inl rfl
              · exact .inl rfl) (fun i x hi hx => by
              have := hf i (by rw [← lc1]; exact hi)
              rw [this.1] at hx
              cases hx
              exact rv1 i (by rw [← lc1]; exact hi))
            refine ⟨ι2, I2, x1.trans x2, ?_, f1.trans ⟨rfl, fun id' m' c' g' => ?_, fun id' hm => ?_⟩⟩
            · refine .pimm f (fun i hi => (hf i (by rw [← l1]; exact hi)).1) (fun i hi => hio (by cases m <;> simp) i (by rw [lc1, ← l1]; exact hi)) (fun i hi => (hf i (by rw [← l1]; exact hi)).2.1) (fun i hi => (rv1 i (by rw [← l1]; exact hi)).ext x2)
            · rw [St.get_put]
              by_cases e : id' = id
              · subst e
                rw [g1] at g'
                cases g'
                refine ⟨_, _, if_pos rfl, by rw [l1, lc1], ?_⟩
                rcases e1 with rfl | ⟨rfl, rfl⟩
                · by_cases hm : m1 = .mut
                  · subst hm; exact .inr ⟨rfl, rfl⟩
                  · rw [if_neg hm]; exact .inl rfl
                · exact .inl rfl
              · exact ⟨m', c', by rw [if_neg e]; exact g', rfl, .inl rfl⟩
            · rw [St.get_put, if_neg]
              rintro rfl
              rw [hp] at hm
              cases hm
          · cases h
        · cases h

end
end Go.Pv
