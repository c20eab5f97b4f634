/- Operations that only look: what the plain operation yields, the machine's yields. -/
import Derived.Test.YtmfpcofncfhklaaPvRun
namespace Go.Pv
open Go Go.RowKit

section
variable {P : Program} {w : World} {w0 : Bs} {μ : Mu} {ι : Io} {δ : Nat → Prop} {s s' : St} {cmp : Nat → LCode → Code → Prop}

theorem getD_drop_take (cs : List LV) (off k i : Nat) (hi : i < k) : ((cs.drop off).take k).getD i .top = cs.getD (off + i) .top := by
  simp [List.getD_eq_getElem?_getD, hi]

/-- Cells read as a value. -/
theorem loadVar_rel {t : TypeId} {n : Option Nat} (ha : aggOf P t = some n) {cs : List LV} {b o off : Nat} {v : LV}
    (hc : ∀ i, i < cs.length → ∃ x, w.cell? ⟨b, o + i, none⟩ = some x ∧ Rv μ ι w (cs.getD i .top) x) (hv : mkVal n cs off = some v) :
    ∃ x, (loadVar t ⟨b, o + off, none⟩).run P w = .ok x w ∧ Rv μ ι w v x := by
  cases n with
  | none =>
    simp only [mkVal] at hv
    obtain ⟨hlt, rfl⟩ := List.getElem?_eq_some_iff.1 hv
    obtain ⟨x, hx, hr⟩ := hc off hlt
    refine ⟨x, by simp [loadVar, aggOf_none ha, hx], ?_⟩
    simpa [List.getD_eq_getElem?_getD, hlt] using hr
  | some k =>
    simp only [mkVal] at hv
    split at hv
    · rename_i hle
      cases hv
      obtain ⟨h1, h2⟩ := aggOf_some (w := w) ha
      have hch : ∀ i, ∃ x, i < k → (w.cell? ⟨b, o + off + i, none⟩ = some x ∧ Rv μ ι w (cs.getD (off + i) .top) x) := fun i => by
        by_cases hi : i < k
        · obtain ⟨x, hx, hr⟩ := hc (off + i) (by omega)
          exact ⟨x, fun _ => ⟨by rw [← hx]; congr 2; omega, hr⟩⟩
        · exact ⟨undef, fun h => absurd h hi⟩
      let f : Nat → Value := fun i => Classical.choose (hch i)
      have hf : ∀ i, i < k → (w.cell? ⟨b, o + off + i, none⟩ = some (f i) ∧ Rv μ ι w (cs.getD (off + i) .top) (f i)) := fun i hi => Classical.choose_spec (hch i) hi
      have hrun := run_loadCells (P := P) (w := w) b (o + off) ((List.range k).map f) (fun j hj => by
        have hj' : j < k := by simpa using hj
        rw [(hf j hj').1]
        simp [List.getD_eq_getElem?_getD, hj'])
      rw [List.length_map, List.length_range] at hrun
      refine ⟨.agg ((List.range k).map f).toArray, by simp [loadVar, h1, rsz h2, hrun], ?_⟩
      have hlen : ((cs.drop off).take k).length = k := by simp; omega
      refine .agg (by simp [hlen]) (fun i hi => ?_)
      rw [hlen] at hi
      rw [getD_drop_take _ _ _ _ hi]
      have := (hf i hi).2
      simpa [Array.getD_eq_getD_getElem?, hi] using this
    · cases hv

/-- A part of an aggregate. -/
theorem part_rel {t : TypeId} {n : Option Nat} (ha : aggOf P t = some n) {cs : List LV} {vs : Array Value} {off : Nat} {v : LV}
    (hl : vs.size = cs.length) (h : ∀ i, i < cs.length → Rv μ ι w (cs.getD i .top) (vs.getD i undef)) (hv : mkVal n cs off = some v) :
    ∃ x, (part t vs off).run P w = .ok x w ∧ Rv μ ι w v x := by
  cases n with
  | none =>
    simp only [mkVal] at hv
    obtain ⟨hlt, rfl⟩ := List.getElem?_eq_some_iff.1 hv
    have hr := h off hlt
    have hlt' : off < vs.size := by omega
    refine ⟨vs[off], by simp [part, aggOf_none ha, hlt'], ?_⟩
    simpa [List.getD_eq_getElem?_getD, hlt, Array.getD_eq_getD_getElem?, hlt'] using hr
  | some k =>
    simp only [mkVal] at hv
    split at hv
    · rename_i hle
      cases hv
      obtain ⟨h1, h2⟩ := aggOf_some (w := w) ha
      refine ⟨.agg (vs.extract off (off + k)), by simp [part, h1, rsz h2], ?_⟩
      have hlen : ((cs.drop off).take k).length = k := by simp; omega
      refine .agg (by simp [hlen]; omega) (fun i hi => ?_)
      rw [hlen] at hi
      rw [getD_drop_take _ _ _ _ hi]
      have := h (off + i) (by omega)
      have hx : (vs.extract off (off + k)).getD i undef = vs.getD (off + i) undef := by
        simp only [Array.getD_eq_getD_getElem?, Array.getElem?_extract]
        rw [if_pos (by omega)]
      rw [hx]; exact this
    · cases hv

/-- What is known of the cells behind a pointer of the small heap. -/
theorem Inv.cellsAt (I : Inv cmp w0 μ ι δ s w) {id : Nat} {m : Md} {cs : List LV} {p : Place} (hg : s.get id = some (.cells m cs)) (hp : μ id = some p) :
    ∀ i, i < cs.length → ∃ x, w.cell? ⟨p.b, p.off + i, none⟩ = some x ∧ Rv μ ι w (cs.getD i .top) x := fun i hi => by
  obtain ⟨_, h1, h2, _⟩ := I.blk id _ p hg hp
  obtain ⟨x, hx, _, hr⟩ := h2 i (by omega)
  exact ⟨x, hx, hr hi⟩

theorem Inv.cellsAt1 (I : Inv cmp w0 μ ι δ s w) {id : Nat} {m : Md} {cs : List LV} {p : Place} (hg : s.get id = some (.cells m cs)) (hp : μ id = some p) :
    ∀ i, i < cs.length → ∃ x, w.cell? ⟨p.b, p.off + i, none⟩ = some x ∧ x.oneCell' = true ∧ Rv μ ι w (cs.getD i .top) x := fun i hi => by
  obtain ⟨_, h1, h2, _⟩ := I.blk id _ p hg hp
  obtain ⟨x, hx, ho, hr⟩ := h2 i (by omega)
  exact ⟨x, hx, ho, hr hi⟩

theorem intBin_rel {t : TypeId} {op : BinOp} {k : IntKind} {x y : Int} {v : LV} (h : intBin op k x y = some v) (hs : op ≠ .shl ∧ op ≠ .shr) :
    ∃ u, (binOp op t (.int k x) (.int k y)).run P w = .ok u w ∧ Rv μ ι w v u := by
  cases op <;> simp only [intBin] at h <;> first
    | (cases h; refine ⟨_, by simp [binOp, Op.intArith]; rfl, by constructor⟩; done)
    | (cases h; refine ⟨_, by simp [binOp, Op.intBits]; rfl, by constructor⟩; done)
    | (cases h; refine ⟨_, by simp [binOp, Op.intCmp]; rfl, by constructor⟩; done)
    | (split at h; cases h; rename_i h0; cases h; refine ⟨_, by simp [binOp, Op.intDiv, h0]; rfl, by constructor⟩; done)
    | (exact absurd rfl hs.1) | (exact absurd rfl hs.2)

end
end Go.Pv
