/- The machine's reads and writes of rows of cells, and what they do to the relation. -/
import Derived.Test.YtmfpcofncfhklaaPvRel
namespace Go.Pv
open Go Go.RowKit

@[simp] theorem add_mk (b o n : Nat) : (⟨b, o, none⟩ : Addr).add n = ⟨b, o + n, none⟩ := by
  unfold Addr.add; split
  · next h => subst h; rfl
  · rfl

section
variable {P : Program} {w w' : World} {w0 : Bs} {μ μ' : Mu} {ι ι' : Io} {δ δ' : Nat → Prop} {s s' : St} {cmp : Nat → LCode → Code → Prop}

theorem run_load_at {a : Addr} {v : Value} (h : w.cell? a = some v) : (load a).run P w = .ok v w := by simp [h]

theorem run_loadCellsFrom (b o : Nat) : ∀ (vs : List Value) (i : Nat) (acc : Array Value), (∀ j, j < vs.length → w.cell? ⟨b, o + (i + j), none⟩ = some (vs.getD j undef)) →
    (loadCellsFrom ⟨b, o, none⟩ i vs.length acc).run P w = .ok (acc ++ vs.toArray) w := by
  intro vs
  induction vs with
  | nil => intro i acc _; simp [loadCellsFrom]
  | cons v vs ih =>
    intro i acc h
    have h0 := h 0 (by simp)
    simp only [Nat.add_zero, List.getD_cons_zero] at h0
    simp only [List.length_cons, loadCellsFrom, Sem.run_bind, add_mk, run_load_at h0, Result.andThen_ok]
    rw [ih (i + 1) (acc.push v) (fun j hj => by have := h (j + 1) (by simpa using hj); simp only [List.getD_cons_succ] at this; rw [← this]; congr 2; omega)]
    simp

theorem run_loadCells (b o : Nat) (vs : List Value) (h : ∀ j, j < vs.length → w.cell? ⟨b, o + j, none⟩ = some (vs.getD j undef)) :
    (loadCells ⟨b, o, none⟩ vs.length).run P w = .ok vs.toArray w := by
  have := run_loadCellsFrom (P := P) (w := w) b o vs 0 #[] (fun j hj => by rw [Nat.zero_add]; exact h j hj)
  simpa [loadCells] using this

/-- Cells written in a row: nothing else has turned. -/
structure Wrote (b o : Nat) (vs : List Value) (w w' : World) : Prop where
  os : w'.os = w.os
  tape : w'.tape = w.tape
  output : w'.output = w.output
  size : w'.heap.size = w.heap.size
  block : ∀ k, k ≠ b → w'.heap[k]? = w.heap[k]?
  hit : ∀ i, i < vs.length → w'.cell? ⟨b, o + i, none⟩ = some (vs.getD i undef)
  miss : ∀ c : Addr, (c.block ≠ b ∨ c.off < o ∨ o + vs.length ≤ c.off) → w'.cell? c = w.cell? c
  frozen : ∀ c, w'.frozen? c = w.frozen? c
  shape : ∀ k, w'.shape? k = w.shape? k

theorem shape?_setCell (a : Addr) (v : Value) (k : Nat) : (w.setCell a v).shape? k = w.shape? k := by
  simp only [World.setCell, World.shape?, Array.getElem?_modify]
  by_cases h : a.block = k
  · subst h
    cases hh : w.heap[a.block]? with
    | none => simp
    | some x =>
      cases x <;> simp
      split <;> simp
  · simp [h]

theorem heap_setCell_other (a : Addr) (v : Value) (k : Nat) (h : k ≠ a.block) : (w.setCell a v).heap[k]? = w.heap[k]? := Below.heap_setCell w a v k h

theorem run_storeCells (b o : Nat) : ∀ (vs : List Value) (i : Nat) (w : World), (∀ v ∈ vs, v.oneCell' = true) →
    (∀ j, j < vs.length → ∃ v, w.cell? ⟨b, o + (i + j), none⟩ = some v) → (∀ j, j < vs.length → w.frozen? ⟨b, o + (i + j), none⟩ = false) →
    ∃ w', (storeCells ⟨b, o, none⟩ vs i).run P w = .ok () w' ∧ Wrote b (o + i) vs w w' := by
  intro vs
  induction vs with
  | nil =>
    intro i w _ _ _
    exact ⟨w, rfl, rfl, rfl, rfl, rfl, fun _ _ => rfl, fun i h => by simp at h, fun _ _ => rfl, fun _ => rfl, fun _ => rfl⟩
  | cons v vs ih =>
    intro i w h1 hc hf
    obtain ⟨u, hu⟩ := hc 0 (by simp)
    have hf0 := hf 0 (by simp)
    simp only [Nat.add_zero] at hu hf0
    have hst : (store ⟨b, o + i, none⟩ v).run P w = .ok () (w.setCell ⟨b, o + i, none⟩ v) := by
      rw [run_store P w _ v .plain (h1 v (by simp))]; simp [hu, hf0]
    obtain ⟨w', hw', W⟩ := ih (i + 1) (w.setCell ⟨b, o + i, none⟩ v) (fun v h => h1 v (by simp [h]))
      (fun j hj => by
        obtain ⟨u, hu⟩ := hc (j + 1) (by simpa using hj)
        refine ⟨u, ?_⟩
        rw [World.cell?_setCell_other]
        · rw [← hu]; congr 2; omega
        · intro e; simp only [Addr.mk.injEq] at e; omega)
      (fun j hj => by
        rw [World.frozen?_setCell, ← hf (j + 1) (by simpa using hj)]; congr 2; omega)
    refine ⟨w', by simp only [storeCells, Sem.run_bind, add_mk, hst, Result.andThen_ok, hw'], W.os.trans rfl, W.tape.trans rfl, W.output.trans rfl, by rw [W.size]; simp,
      fun k hk => (W.block k hk).trans (heap_setCell_other _ _ _ (by simpa using hk)), ?_, ?_, fun c => by rw [W.frozen, World.frozen?_setCell], fun k => by rw [W.shape, shape?_setCell]⟩
    · intro j hj
      cases j with
      | zero =>
        rw [W.miss _ (.inr (.inl (by simp)))]
        simpa using World.cell?_setCell_same w _ v hu
      | succ j =>
        have := W.hit j (by simpa using hj)
        rw [List.getD_cons_succ, ← this]; congr 2; omega
    · intro c hc'
      rw [W.miss c (by simp only [List.length_cons] at hc'; omega)]
      apply World.cell?_setCell_other
      rintro rfl
      simp at hc'
      omega

/-! ### Worlds and the relation -/

theorem Below.wrote {B : Nat} {w0 w w' : World} {b o : Nat} {vs : List Value} (h : Below B w0 w) (W : Wrote b o vs w w') (hb : B ≤ b) : Below B w0 w' :=
  h.trans ⟨W.os, W.tape, W.output, Nat.le_of_eq W.size.symm, fun k hk => W.block k (by omega)⟩

theorem cell_lt {b o : Nat} {v : Value} (h : w.cell? ⟨b, o, none⟩ = some v) : b < w.heap.size := World.block_lt_of_cell? w ⟨b, o, none⟩ h

theorem cell_of_heap {b o : Nat} (h : w'.heap[b]? = w.heap[b]?) : w'.cell? ⟨b, o, none⟩ = w.cell? ⟨b, o, none⟩ := World.cell?_of_block (w := w) h
theorem frozen_of_heap {b o : Nat} (h : w'.heap[b]? = w.heap[b]?) : w'.frozen? ⟨b, o, none⟩ = w.frozen? ⟨b, o, none⟩ := World.frozen?_of_block (w := w) h

/-- Nothing that was there has turned (a draw, new blocks). -/
structure Same (w w' : World) : Prop where
  os : w'.os = w.os
  tape : w'.tape = w.tape
  output : w'.output = w.output
  size : w.heap.size ≤ w'.heap.size
  block : ∀ k, k < w.heap.size → w'.heap[k]? = w.heap[k]?

theorem Same.refl (w : World) : Same w w := ⟨rfl, rfl, rfl, Nat.le_refl _, fun _ _ => rfl⟩
theorem Same.trans {w w' w'' : World} (h : Same w w') (k : Same w' w'') : Same w w'' :=
  ⟨k.os.trans h.os, k.tape.trans h.tape, k.output.trans h.output, Nat.le_trans h.size k.size, fun i hi => (k.block i (Nat.lt_of_lt_of_le hi h.size)).trans (h.block i hi)⟩
theorem Same.drew (w : World) : Same w { w with drawn := w.drawn + 1 } := ⟨rfl, rfl, rfl, Nat.le_refl _, fun _ _ => rfl⟩
theorem Same.alloc (w : World) (o : Obj) : Same w { w with heap := w.heap.push o } :=
  ⟨rfl, rfl, rfl, by simp, fun k hk => Below.heap_alloc w o k hk⟩
theorem Same.of_below {w w' : World} (h : Below w.heap.size w w') : Same w w' := ⟨h.os, h.tape, h.output, h.size, h.block⟩
theorem Same.below {B : Nat} {w0 : World} (h : Same w w') (hb : Below B w0 w) (hB : B ≤ w.heap.size) : Below B w0 w' :=
  hb.trans ⟨h.os, h.tape, h.output, h.size, fun k hk => h.block k (by omega)⟩

theorem Same.cell (h : Same w w') {b o : Nat} {v : Value} (hv : w.cell? ⟨b, o, none⟩ = some v) : w'.cell? ⟨b, o, none⟩ = some v := by
  rw [cell_of_heap (h.block b (cell_lt hv)), hv]

theorem Inv.hB (I : Inv cmp w0 μ ι δ s w) : w0.heap.size ≤ w.heap.size := I.below.size

theorem Inv.cell_same (I : Inv cmp w0 μ ι δ s w) (h : Same w w') : ∀ b o, ι b o → w'.cell? ⟨b, o, none⟩ = w.cell? ⟨b, o, none⟩ := fun b o hi => by
  obtain ⟨v, hv⟩ := I.io b o hi
  rw [hv, h.cell hv]

theorem Inv.ext_same (I : Inv cmp w0 μ ι δ s w) (h : Same w w') : Ext μ ι δ w μ ι δ w' :=
  ⟨fun _ _ h => h, fun _ _ h => h, I.cell_same h, h.size, fun _ h => h⟩

theorem Rb.same (I : Inv cmp w0 μ ι δ s w) (h : Same w w') {p : Place} (hp : p.b < w.heap.size) {b : Blk} (hb : Rb cmp μ ι w p b) : Rb cmp μ ι w' p b := by
  have hcell := I.cell_same h
  cases b with
  | cells m cs =>
    obtain ⟨⟨x, h0⟩, h1, h2, h3, h4, h5, h6⟩ := hb
    refine ⟨⟨x, by unfold World.shape? at *; rw [h.block p.b hp]; exact h0⟩, h1, fun i hi => ?_, fun i hi => by rw [frozen_of_heap (h.block p.b hp)]; exact h3 i hi, h4, h5, h6⟩
    obtain ⟨v, hv, ho, hr⟩ := h2 i hi
    exact ⟨v, h.cell hv, ho, fun hl => (hr hl).mono hcell (fun _ _ h => h) (fun _ _ h => h)⟩
  | loop st pend env ps as bo =>
    obtain ⟨L, hL, h1, h2, h3, h4⟩ := hb
    exact ⟨L, (h.block p.b hp).trans hL, h1, h2, fun t => (h3 t).mono hcell (fun _ _ h => h) (fun _ _ h => h), h4⟩
  | map es =>
    obtain ⟨arr, h1, h2, h3⟩ := hb
    exact ⟨arr, (h.block p.b hp).trans h1, h2, fun i hi => ⟨(h3 i hi).1, (h3 i hi).2.1, (h3 i hi).2.2.1.mono hcell (fun _ _ h => h) (fun _ _ h => h), (h3 i hi).2.2.2.mono hcell (fun _ _ h => h) (fun _ _ h => h)⟩⟩
  | iter m n0 seen last =>
    obtain ⟨h0, pb, h1, h2⟩ := hb
    refine ⟨h0, pb, (h.block p.b hp).trans h1, ?_⟩
    cases m with
    | none => exact h2
    | some id => obtain ⟨pm, h3, h4⟩ := h2; exact ⟨pm, h3, h4⟩

theorem Inv.same (I : Inv cmp w0 μ ι δ s w) (h : Same w w') : Inv cmp w0 μ ι δ s w' where
  below := h.below I.below I.hB
  dom := fun id p hp => let ⟨a, b, c⟩ := I.dom id p hp; ⟨a, b, Nat.lt_of_lt_of_le c h.size⟩
  io := fun b o hi => let ⟨v, hv⟩ := I.io b o hi; ⟨v, h.cell hv⟩
  blk := fun id b p hb hp => (I.blk id b p hb hp).same I h (I.dom id p hp).2.2
  sep := I.sep
  defers := fun r hr => let ⟨a, b⟩ := I.defers r hr; ⟨a, by rw [h.block r (by have := Array.getElem?_eq_some_iff.1 b; exact this.1)]; exact b⟩
  low := I.low

/-- More is known to be immutable. -/
theorem Rb.mono {p : Place} {b : Blk} (hμ : ∀ id p, μ id = some p → μ' id = some p) (hι : ∀ b o, ι b o → ι' b o) (hcell : ∀ b o, ι b o → w'.cell? ⟨b, o, none⟩ = w.cell? ⟨b, o, none⟩)
    (hheap : w'.heap[p.b]? = w.heap[p.b]?) (hn : b.owns = true → ∀ i, ι' p.b i → ι p.b i) (hb : Rb cmp μ ι w p b) : Rb cmp μ' ι' w' p b := by
  cases b with
  | cells m cs =>
    obtain ⟨⟨x, h0⟩, h1, h2, h3, h4, h5, h6⟩ := hb
    refine ⟨⟨x, by unfold World.shape? at *; rw [hheap]; exact h0⟩, h1, fun i hi => ?_, fun i hi => by rw [frozen_of_heap hheap]; exact h3 i hi, fun hm i hi => hι _ _ (h4 hm i hi), ?_, ?_⟩
    · obtain ⟨v, hv, ho, hr⟩ := h2 i hi
      exact ⟨v, by rw [cell_of_heap hheap]; exact hv, ho, fun hl => (hr hl).mono hcell hμ hι⟩
    · intro hm i hi hx; subst hm; exact h5 rfl i hi (hn rfl _ hx)
    · intro hm i hl hi hx; subst hm; exact h6 rfl i hl hi (hn rfl _ hx)
  | loop st pend env ps as bo =>
    obtain ⟨L, hL, h1, h2, h3, h4⟩ := hb
    exact ⟨L, hheap.trans hL, h1, h2, fun t => (h3 t).mono hcell hμ hι, h4⟩
  | map es =>
    obtain ⟨arr, h1, h2, h3⟩ := hb
    exact ⟨arr, hheap.trans h1, h2, fun i hi => ⟨(h3 i hi).1, (h3 i hi).2.1, (h3 i hi).2.2.1.mono hcell hμ hι, (h3 i hi).2.2.2.mono hcell hμ hι⟩⟩
  | iter m n0 seen last =>
    obtain ⟨h0, pb, h1, h2⟩ := hb
    refine ⟨h0, pb, hheap.trans h1, ?_⟩
    cases m with
    | none => exact h2
    | some id => obtain ⟨pm, h3, h4⟩ := h2; exact ⟨pm, hμ _ _ h3, h4⟩

end
end Go.Pv
