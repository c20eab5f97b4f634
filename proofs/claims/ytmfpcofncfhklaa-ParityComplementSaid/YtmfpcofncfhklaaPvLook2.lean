/- Operations that only look: all of them. -/
import Derived.Test.YtmfpcofncfhklaaPvLook
import Derived.ChangeKeysEq
import Derived.LaidEql
import Derived.WalkSpells
namespace Go.Pv
open Go Go.RowKit

section
variable {P : Program} {w : World} {w0 : Bs} {μ : Mu} {ι : Io} {δ : Nat → Prop} {s s' : St} {cmp : Nat → LCode → Code → Prop}

/-- Rows side by side. -/
def Ra (μ : Mu) (ι : Io) (w : World) (cs : List LV) (vs : Array Value) : Prop := vs.size = cs.length ∧ ∀ i, i < cs.length → Rv μ ι w (cs.getD i .top) (vs.getD i undef)

theorem Ra.set {cs : List LV} {vs : Array Value} (h : Ra μ ι w cs vs) {v : LV} {x : Value} (hv : Rv μ ι w v x) (i : Nat) : Ra μ ι w (cs.set i v) (vs.setIfInBounds i x) := by
  refine ⟨by simp [h.1], fun j hj => ?_⟩
  have hj' : j < cs.length := by simpa using hj
  have hj2 : j < vs.size := by rw [h.1]; exact hj'
  by_cases e : i = j
  · subst e
    simpa [List.getD_eq_getElem?_getD, Array.getD_eq_getD_getElem?, hj', hj2] using hv
  · have := h.2 j hj'
    simpa [List.getD_eq_getElem?_getD, Array.getD_eq_getD_getElem?, List.getElem?_set, Array.getElem?_setIfInBounds, e] using this

theorem Ra.splice (new : List LV) : ∀ (xs : List Value) (off n : Nat) (cs : List LV) (vs : Array Value), Ra μ ι w cs vs → xs.length = new.length →
    (∀ i, i < new.length → Rv μ ι w (new.getD i .top) (xs.getD i undef)) →
    Ra μ ι w (splice cs (off + n) new) ((xs.zipIdx n).foldl (fun cs x => cs.setIfInBounds (off + x.2) x.1) vs) := by
  induction new with
  | nil => intro xs off n cs vs h hl _; simp at hl; subst hl; exact h
  | cons v new ih =>
    intro xs off n cs vs h hl hr
    cases xs with
    | nil => simp at hl
    | cons x xs =>
      simp only [List.zipIdx_cons, List.foldl_cons, Pv.splice]
      rw [show off + n + 1 = off + (n + 1) from by omega]
      refine ih xs off (n + 1) _ _ (h.set (by simpa using hr 0 (by simp)) _) (by simpa using hl) (fun i hi => ?_)
      have := hr (i + 1) (by simpa using hi)
      simpa using this

theorem fill_rel {place : Nat → Option (Nat × Nat)} : ∀ (ps : List (Nat × Value)) (ls : List (Nat × Nat × LV)) (cs cs' : List LV) (vs : Array Value), Ra μ ι w cs vs → ps.length = ls.length →
    (∀ (i : Nat) (h : i < ps.length) (h' : i < ls.length), place (ps[i].1) = some (ls[i].1, ls[i].2.1) ∧ Rv μ ι w ls[i].2.2 ps[i].2) → fillParts cs ls = some cs' →
    ∃ vs', Instr.fill place vs ps = some vs' ∧ Ra μ ι w cs' vs' := by
  intro ps
  induction ps with
  | nil =>
    intro ls cs cs' vs h hl _ hf
    obtain rfl : ls = [] := by simpa using hl.symm
    simp [fillParts] at hf
    subst hf
    exact ⟨vs, rfl, h⟩
  | cons p ps ih =>
    intro ls cs cs' vs h hl hp hf
    cases ls with
    | nil => simp at hl
    | cons l ls =>
      obtain ⟨i, x⟩ := p
      obtain ⟨off, size, v⟩ := l
      have h0 := hp 0 (by simp) (by simp)
      simp only [List.getElem_cons_zero] at h0
      simp only [fillParts] at hf
      cases hc : cells? v with
      | none => simp [hc] at hf
      | some new =>
        simp only [hc] at hf
        split at hf
        · rename_i hb
          obtain ⟨h1, h2, h3⟩ := cells_rel h0.2 hc
          have hsp := Ra.splice (new := new) x.cells.toList off 0 cs vs h (by simp [h1]) (fun i hi => by
            have := h2 i hi
            have hi' : i < x.cells.size := by rw [h1]; exact hi
            simpa [List.getD_eq_getElem?_getD, Array.getD_eq_getD_getElem?, hi'] using this)
          obtain ⟨vs', hvs', hr'⟩ := ih ls _ cs' _ hsp (by simpa using hl) (fun i h h' => by
            have := hp (i + 1) (by simpa using h) (by simpa using h')
            simpa using this) hf
          refine ⟨vs', ?_, hr'⟩
          simp only [Instr.fill, h0.1]
          rw [if_neg (by simp [h1, hb.1, h.1]; omega)]
          rw [← hvs']
          congr 1
          rw [← Array.foldl_toList]
          simp
        · cases hf

theorem mapM_run {α β : Type} {f : α → Sem β} {g : α → Option β} (hfg : ∀ a b, g a = some b → (f a).run P w = .ok b w) : ∀ (l : List α) (r : List β), l.mapM g = some r → (l.mapM f).run P w = .ok r w := by
  intro l
  induction l with
  | nil => intro r h; simp at h; subst h; rfl
  | cons a l ih =>
    intro r h
    rw [List.mapM_cons] at h ⊢
    cases ha : g a with
    | none => simp [ha] at h
    | some b =>
      cases hl : l.mapM g with
      | none => simp [ha, hl] at h
      | some bs =>
        simp [ha, hl] at h
        subst h
        simp [hfg a b ha, ih bs hl]

theorem zeroC_run {t : TypeId} {z : List LV} (h : zeroC P t = some z) : ∃ v, (zeroValue t).run P w = .ok v w ∧ Ra μ ι w z v.cells ∧ (∀ y ∈ z, isCell y = true) := by
  unfold zeroC at h
  cases hi : P.info? t with
  | none => simp [hi] at h
  | some i =>
    cases hz : i.zero with
    | none => simp [hi, hz] at h
    | some v =>
      cases hc : constC v with
      | none => simp [hi, hz, hc] at h
      | some x =>
        simp [hi, hz, hc] at h
        obtain ⟨h1, h2, h3⟩ := cells_rel (rv_constC (μ := μ) (ι := ι) (w := w) hc) h
        exact ⟨v, rz hi hz, ⟨h1, h2⟩, by simpa using h3⟩

variable {c : Ctx} {e : Env} {a : Act}

def maParts (a : Act) (ps : List (Nat × Operand)) : List (Nat × Value) := ps.map fun q => (q.1, a.eval q.2)

theorem partsOf_rel {place : Nat → Option (Nat × Nat)} {ps : List (Nat × Operand)} {ls : List (Nat × Nat × Opd)} (h : partsOf c place ps = some ls)
    (hρ : ∀ x y, x ∈ ps.map (·.2) → opd c x = some y → Rv μ ι w (y.ev e) (a.eval x)) :
    (maParts a ps).length = (evParts e ls).length ∧
    ∀ (i : Nat) (h : i < (maParts a ps).length) (h' : i < (evParts e ls).length), place ((maParts a ps)[i].1) = some ((evParts e ls)[i].1, (evParts e ls)[i].2.1) ∧ Rv μ ι w (evParts e ls)[i].2.2 (maParts a ps)[i].2 := by
  obtain ⟨h1, h2⟩ := mapM_get h
  refine ⟨by simp [maParts, evParts, h1], fun i hi hi' => ?_⟩
  have hp : i < ps.length := by simpa [maParts] using hi
  have hl : i < ls.length := by simpa [evParts] using hi'
  obtain ⟨y, hy, hf⟩ := h2 i hp
  obtain ⟨hlt, rfl⟩ := List.getElem?_eq_some_iff.1 hy
  simp only [maParts, evParts, List.getElem_map]
  cases hpl : place ps[i].1 with
  | none => simp [hpl] at hf
  | some q =>
    cases ho : opd c ps[i].2 with
    | none => simp [hpl, ho] at hf
    | some z =>
      simp [hpl, ho] at hf
      rw [← hf]
      exact ⟨rfl, hρ _ _ (List.mem_map.2 ⟨ps[i], List.getElem_mem hp, rfl⟩) ho⟩

theorem opds_rel {l : List Operand} {r : List Opd} (h : opds c l = some r) (hρ : ∀ x y, x ∈ l → opd c x = some y → Rv μ ι w (y.ev e) (a.eval x)) :
    Ra μ ι w (r.map (·.ev e)) (l.map a.eval).toArray := by
  obtain ⟨h1, h2⟩ := mapM_get h
  refine ⟨by simp [h1], fun i hi => ?_⟩
  have hi' : i < l.length := by simpa [h1] using hi
  obtain ⟨y, hy, hf⟩ := h2 i hi'
  have := hρ l[i] y (List.getElem_mem hi') hf
  have hr : i < r.length := by omega
  obtain ⟨_, rfl⟩ := List.getElem?_eq_some_iff.1 hy
  simpa [List.getD_eq_getElem?_getD, Array.getD_eq_getD_getElem?, hi', hr] using this

theorem idxOf_rel {len : Nat} {v : LV} {x : Value} {k : Nat} (hv : Rv μ ι w v x) (h : idxOf len v = some k) : ∃ kd i, x = .int kd i ∧ (asIntOf x).run P w = .ok (kd, i) w ∧ 0 ≤ i ∧ i < len ∧ k = i.toNat := by
  cases hv <;> simp only [idxOf] at h <;> try (cases h; done)
  split at h
  · rename_i hb; cases h; exact ⟨_, _, rfl, by simp [asIntOf], hb.1, hb.2, rfl⟩
  · cases h

theorem lenLV_rel {v : LV} {x : Value} {n : Nat} (hv : Rv μ ι w v x) (h : lenLV v = some n) : (∃ b c, x = .slice b n c) ∨ (∃ s, x = .string s ∧ s.size = n) := by
  cases hv <;> simp only [lenLV] at h <;> first
    | (cases h; done)
    | (cases h; exact .inl ⟨_, _, rfl⟩)
    | (cases h; exact .inr ⟨_, rfl, rfl⟩)

end
end Go.Pv
