/- The steps that the relation between the small heap and the world goes through. -/
import Derived.Test.YtmfpcofncfhklaaPvMem
namespace Go.Pv
open Go Go.RowKit

section
variable {P : Program} {w w' : World} {w0 : Bs} {μ μ' : Mu} {ι ι' : Io} {δ δ' : Nat → Prop} {s s' : St} {cmp : Nat → LCode → Code → Prop}

def Mu.upd (μ : Mu) (n : Nat) (p : Place) : Mu := fun id => if id = n then some p else μ id

theorem Inv.mu_n (I : Inv cmp w0 μ ι δ s w) : μ s.n = none := by
  cases h : μ s.n with
  | none => rfl
  | some p => exact absurd (I.dom _ _ h).1 (Nat.lt_irrefl _)

theorem Inv.upd_le (I : Inv cmp w0 μ ι δ s w) (p : Place) : ∀ id q, μ id = some q → (μ.upd s.n p) id = some q := fun id q h => by
  unfold Mu.upd
  rw [if_neg (fun e => by have := (I.dom id q h).1; omega)]
  exact h

/-- A block of the small heap for a place that no other one owns. -/
theorem Inv.addBlk (I : Inv cmp w0 μ ι δ s w) (p : Place) (b : Blk) (h1 : w0.heap.size ≤ p.b) (h2 : p.b < w.heap.size) (hb : Rb cmp μ ι w p b)
    (ho : b.owns = true → ∀ id b' p', s.get id = some b' → b'.owns = true → μ id = some p' → p'.b ≠ p.b) :
    Inv cmp w0 (μ.upd s.n p) ι δ (s.new b) w ∧ Ext μ ι δ w (μ.upd s.n p) ι δ w := by
  have hle := I.upd_le p
  have hRb : ∀ {q : Place} {b : Blk}, Rb cmp μ ι w q b → Rb cmp (μ.upd s.n p) ι w q b := fun h => h.mono hle (fun _ _ h => h) (fun _ _ _ => rfl) rfl (fun _ _ h => h)
  refine ⟨⟨I.below, ?_, I.io, ?_, ?_, I.defers, I.low⟩, ⟨hle, fun _ _ h => h, fun _ _ _ => rfl, Nat.le_refl _, fun _ h => h⟩⟩
  · intro id q hq
    unfold Mu.upd at hq
    split at hq
    · rename_i e; cases hq; subst e; exact ⟨by simp, h1, h2⟩
    · have := I.dom id q hq; exact ⟨by simp; omega, this.2⟩
  · intro id b' q hb' hq
    rw [St.get_new] at hb'
    unfold Mu.upd at hq
    split at hb'
    · rename_i e; cases hb'; rw [if_pos e] at hq; cases hq; exact hRb hb
    · rename_i e; rw [if_neg e] at hq; exact hRb (I.blk id b' q hb' hq)
  · intro id id' b1 b2 p1 p2 g1 g2 o1 o2 m1 m2 e
    rw [St.get_new] at g1 g2
    unfold Mu.upd at m1 m2
    by_cases e1 : id = s.n <;> by_cases e2 : id' = s.n
    · omega
    · rw [if_pos e1] at g1 m1; rw [if_neg e2] at g2 m2; cases g1; cases m1
      exact absurd e.symm (ho o1 id' b2 p2 g2 o2 m2)
    · rw [if_neg e1] at g1 m1; rw [if_pos e2] at g2 m2; cases g2; cases m2
      exact absurd e (ho o2 id b1 p1 g1 o1 m1)
    · rw [if_neg e1] at g1 m1; rw [if_neg e2] at g2 m2
      exact I.sep id id' b1 b2 p1 p2 g1 g2 o1 o2 m1 m2 e

/-- A new row of cells, as a block. -/
theorem Inv.rbNew (I : Inv cmp w0 μ ι δ s w) (T : TypeId) (arr : Array Value) (cs : List LV) (hl : cs.length ≤ arr.size) (ho : ∀ i, i < arr.size → (arr.getD i undef).oneCell' = true) (h : ∀ i, i < cs.length → Rv μ ι w (cs.getD i .top) (arr.getD i undef)) :
    let w' : World := { w with heap := w.heap.push (.cells arr T) }
    let p : Place := ⟨w.heap.size, 0, arr.size⟩
    Inv cmp w0 μ ι δ s w' ∧ Ext μ ι δ w μ ι δ w' ∧ Rb cmp μ ι w' p (.cells .mut cs) ∧ p.b < w'.heap.size ∧ (∀ id p', μ id = some p' → p'.b ≠ p.b) := by
  intro w' p
  have hs : Same w w' := Same.alloc w _
  have I' := I.same hs
  have hx := I.ext_same hs
  have hsz : w'.heap.size = w.heap.size + 1 := by simp [w']
  have hcell : ∀ i, w'.cell? ⟨w.heap.size, i, none⟩ = arr[i]? := fun i => World.cell?_alloc_new w arr T i
  have hb : Rb cmp μ ι w' p (.cells .mut cs) := by
    refine ⟨⟨(T, arr.size), by simp [World.shape?, w', p]⟩, hl, fun i hi => ⟨arr.getD i undef, ?_, ho i hi, fun hc => (h i hc).ext hx⟩, fun i _ => ?_, fun hm => absurd rfl hm, fun _ i _ hx => ?_, fun hm => by cases hm⟩
    · show w'.cell? ⟨w.heap.size, 0 + i, none⟩ = _
      have hi' : i < arr.size := hi
      rw [Nat.zero_add, hcell]
      simp [Array.getD_eq_getD_getElem?, hi']
    · show w'.frozen? ⟨w.heap.size, 0 + i, none⟩ = false
      exact World.frozen?_alloc_new w arr T (0 + i)
    · obtain ⟨v, hv⟩ := I.io _ _ hx
      have := cell_lt hv
      exact absurd this (Nat.lt_irrefl _)
  refine ⟨I', hx, hb, by rw [hsz]; exact Nat.lt_succ_self _, fun id p' hm e => ?_⟩
  have := (I.dom id p' hm).2.2
  have e' : p'.b = w.heap.size := e
  omega

/-- A new row of cells. -/
theorem Inv.newCells (I : Inv cmp w0 μ ι δ s w) (T : TypeId) (arr : Array Value) (cs : List LV) (hl : cs.length ≤ arr.size) (ho : ∀ i, i < arr.size → (arr.getD i undef).oneCell' = true) (h : ∀ i, i < cs.length → Rv μ ι w (cs.getD i .top) (arr.getD i undef)) :
    let w' : World := { w with heap := w.heap.push (.cells arr T) }
    let p : Place := ⟨w.heap.size, 0, arr.size⟩
    Inv cmp w0 (μ.upd s.n p) ι δ (s.new (.cells .mut cs)) w' ∧ Ext μ ι δ w (μ.upd s.n p) ι δ w' := by
  intro w' p
  obtain ⟨I', hx, hb, hlt, hne⟩ := I.rbNew T arr cs hl ho h
  obtain ⟨I2, x2⟩ := I'.addBlk p (.cells .mut cs) I.hB hlt hb (fun _ id b' p' _ _ hm e => hne id p' hm e)
  exact ⟨I2, hx.trans x2⟩

/-- A new row of cells that is never written: by value. -/
theorem Inv.newImm (I : Inv cmp w0 μ ι δ s w) (T : TypeId) (arr : Array Value) :
    let w' : World := { w with heap := w.heap.push (.cells arr T) }
    let ι' : Io := fun b o => ι b o ∨ (b = w.heap.size ∧ o < arr.size)
    Inv cmp w0 μ ι' δ s w' ∧ Ext μ ι δ w μ ι' δ w' ∧ (∀ i, w'.cell? ⟨w.heap.size, i, none⟩ = arr[i]?) := by
  intro w' ι'
  have hs : Same w w' := Same.alloc w _
  have I' := I.same hs
  have hx := I.ext_same hs
  have hcell : ∀ i, w'.cell? ⟨w.heap.size, i, none⟩ = arr[i]? := fun i => World.cell?_alloc_new w arr T i
  refine ⟨⟨I'.below, I'.dom, ?_, ?_, I'.sep, I'.defers, fun b o h hb => h.elim (fun h => I.low b o h hb) (fun h => absurd I.hB (by omega))⟩, ⟨fun _ _ h => h, fun _ _ h => .inl h, hx.cell, hx.size, fun _ h => h⟩, hcell⟩
  · rintro b o (h | ⟨rfl, h⟩)
    · exact I'.io b o h
    · exact ⟨arr[o], by rw [hcell]; simp [h]⟩
  · intro id b p hb hp
    refine (I'.blk id b p hb hp).mono (fun _ _ h => h) (fun _ _ h => .inl h) (fun _ _ _ => rfl) rfl (fun _ i hi => ?_)
    rcases hi with hi | ⟨e, _⟩
    · exact hi
    · have := (I.dom id p hp).2.2; omega

theorem splice_getD (new : List LV) : ∀ (cs : List LV) (off i : Nat), off + new.length ≤ cs.length → (splice cs off new).getD i .top = if off ≤ i ∧ i < off + new.length then new.getD (i - off) .top else cs.getD i .top := by
  induction new with
  | nil => intro cs off i _; rw [if_neg (by simp only [List.length_nil]; omega)]; rfl
  | cons a new ih =>
    intro cs off i h
    simp only [List.length_cons] at h
    rw [splice, ih _ _ _ (by simp; omega)]
    by_cases e0 : i = off
    · subst e0
      rw [if_neg (by omega), if_pos (by simp)]
      simp [List.getD_eq_getElem?_getD, show i < cs.length from by omega]
    · by_cases e1 : off ≤ i ∧ i < off + (new.length + 1)
      · rw [if_pos (by omega), if_pos (by simp; omega), show i - off = (i - (off + 1)) + 1 from by omega, List.getD_cons_succ]
      · rw [if_neg (by omega), if_neg (by simp; omega)]
        simp [List.getD_eq_getElem?_getD, Ne.symm e0]

/-- What a block says of the world is not touched by a row of writes into cells that are not immutable, unless it owns the place. -/
theorem Rb.wrote {b o : Nat} {vs : List Value} (W : Wrote b o vs w w') (ho : ∀ i, i < vs.length → (vs.getD i undef).oneCell' = true) {p : Place} {bl : Blk} (hb : Rb cmp μ ι w p bl)
    (hcell : ∀ b o, ι b o → w'.cell? ⟨b, o, none⟩ = w.cell? ⟨b, o, none⟩) (h : bl.owns = true → p.b ≠ b) : Rb cmp μ ι w' p bl := by
  cases bl with
  | cells m cs =>
    by_cases e : p.b = b
    · have hm : m = .ro := by
        cases m <;> first | rfl | exact absurd e (h rfl)
      subst hm
      obtain ⟨⟨x, h0⟩, h1, h2, h3, h4, h5, h6⟩ := hb
      refine ⟨⟨x, by rw [W.shape]; exact h0⟩, h1, fun i hi => ?_, fun i hi => by rw [W.frozen]; exact h3 i hi, h4, (fun hm => by cases hm), (fun hm => by cases hm)⟩
      obtain ⟨v, hv, hov, hr⟩ := h2 i hi
      by_cases hc : i < cs.length
      · have hι := h4 (by simp) i hc
        exact ⟨v, (hcell _ _ hι).trans hv, hov, fun hl => (hr hl).mono hcell (fun _ _ h => h) (fun _ _ h => h)⟩
      · by_cases hit : o ≤ p.off + i ∧ p.off + i < o + vs.length
        · have := W.hit (p.off + i - o) (by omega)
          rw [show o + (p.off + i - o) = p.off + i from by omega, ← e] at this
          exact ⟨_, this, ho _ (by omega), fun hl => absurd hl hc⟩
        · exact ⟨v, (W.miss _ (by simp only; omega)).trans hv, hov, fun hl => absurd hl hc⟩
    · exact hb.mono (fun _ _ h => h) (fun _ _ h => h) hcell (W.block _ e) (fun _ _ h => h)
  | loop st pend env ps as bo =>
    exact hb.mono (fun _ _ h => h) (fun _ _ h => h) hcell (W.block _ (h rfl)) (fun _ _ h => h)
  | map es =>
    exact hb.mono (fun _ _ h => h) (fun _ _ h => h) hcell (W.block _ (h rfl)) (fun _ _ h => h)
  | iter m n0 seen last =>
    exact hb.mono (fun _ _ h => h) (fun _ _ h => h) hcell (W.block _ (h rfl)) (fun _ _ h => h)

theorem wrote_cell {b o : Nat} {vs : List Value} (W : Wrote b o vs w w') (hn : ∀ i, i < vs.length → ¬ ι b (o + i)) : ∀ b' o', ι b' o' → w'.cell? ⟨b', o', none⟩ = w.cell? ⟨b', o', none⟩ := by
  intro b' o' hi
  refine W.miss _ ?_
  by_cases e : b' = b
  · subst e
    right
    by_cases h1 : o' < o
    · exact .inl h1
    · by_cases h2 : o + vs.length ≤ o'
      · exact .inr h2
      · exact absurd hi (by have := hn (o' - o) (by omega); rwa [show o + (o' - o) = o' from by omega] at this)
  · exact .inl e

/-- A row of writes into a block that may be written. -/
theorem Inv.write (I : Inv cmp w0 μ ι δ s w) {id : Nat} {cs : List LV} {p : Place} {off : Nat} (hg : s.get id = some (.cells .mut cs)) (hp : μ id = some p)
    (new : List LV) (vs : List Value) (hl : vs.length = new.length) (hin : off + new.length ≤ cs.length) (hr : ∀ i, i < new.length → Rv μ ι w (new.getD i .top) (vs.getD i undef))
    (ho1 : ∀ i, i < vs.length → (vs.getD i undef).oneCell' = true) (W : Wrote p.b (p.off + off) vs w w') :
    Inv cmp w0 μ ι δ (s.put id (.cells .mut (splice cs off new))) w' ∧ Ext μ ι δ w μ ι δ w' := by
  have hb := I.blk id _ p hg hp
  obtain ⟨⟨x, h0⟩, h1, h2, h3, h4, h5, h6⟩ := hb
  have hdom := I.dom id p hp
  have hn : ∀ i, i < vs.length → ¬ ι p.b (p.off + off + i) := fun i hi => by
    have := h5 rfl (off + i) (by omega)
    rwa [← Nat.add_assoc] at this
  have hcell := wrote_cell W hn
  have hmono : ∀ {v x}, Rv μ ι w v x → Rv μ ι w' v x := fun h => h.mono hcell (fun _ _ h => h) (fun _ _ h => h)
  refine ⟨⟨Below.wrote I.below W hdom.2.1, fun i q hq => by have := I.dom i q hq; rw [W.size]; exact this, ?_, ?_, ?_, ?_, I.low⟩,
    ⟨fun _ _ h => h, fun _ _ h => h, hcell, Nat.le_of_eq W.size.symm, fun _ h => h⟩⟩
  · intro b o hi
    obtain ⟨v, hv⟩ := I.io b o hi
    exact ⟨v, (hcell b o hi).trans hv⟩
  · intro id' b' q hb' hq
    rw [St.get_put] at hb'
    split at hb'
    · rename_i e; subst e; cases hb'
      obtain rfl : p = q := Option.some.inj (hp.symm.trans hq)
      refine ⟨⟨x, by rw [W.shape]; exact h0⟩, by rw [splice_length]; exact h1, fun i hi => ?_, fun i hi => by rw [W.frozen]; exact h3 i hi, fun hm => absurd rfl hm, h5, fun hm => by cases hm⟩
      obtain ⟨v, hv, hov, hrv⟩ := h2 i hi
      rw [splice_length, splice_getD new cs off i hin]
      by_cases hit : off ≤ i ∧ i < off + new.length
      · have := W.hit (i - off) (by omega)
        rw [show p.off + off + (i - off) = p.off + i from by omega] at this
        refine ⟨_, this, ho1 _ (by omega), fun _ => ?_⟩
        rw [if_pos hit]
        exact hmono (hr (i - off) (by omega))
      · refine ⟨v, (W.miss _ (by simp only; omega)).trans hv, hov, fun hc => ?_⟩
        rw [if_neg hit]
        exact hmono (hrv hc)
    · rename_i e
      exact (I.blk id' b' q hb' hq).wrote W ho1 hcell (fun ho e' => e (I.sep id' id b' _ q p hb' hg ho rfl hq hp e'))
  · intro i j b1 b2 p1 p2 g1 g2 o1 o2 m1 m2 e
    rw [St.get_put] at g1 g2
    have f : ∀ {k : Nat} {b : Blk}, (if k = id then some (Blk.cells .mut (splice cs off new)) else s.get k) = some b → b.owns = true → ∃ b', s.get k = some b' ∧ b'.owns = true := by
      intro k b h ho
      split at h
      · rename_i e; subst e; exact ⟨_, hg, rfl⟩
      · exact ⟨b, h, ho⟩
    obtain ⟨c1, k1, l1⟩ := f g1 o1
    obtain ⟨c2, k2, l2⟩ := f g2 o2
    exact I.sep i j c1 c2 p1 p2 k1 k2 l1 l2 m1 m2 e
  · intro r hr'
    obtain ⟨a, b⟩ := I.defers r hr'
    refine ⟨a, ?_⟩
    rw [W.block r ?_]
    · exact b
    · rintro rfl
      simp [World.shape?, b] at h0


/-- The same small heap, otherwise written down. -/
theorem Inv.congr (I : Inv cmp w0 μ ι δ s w) (hn : s'.n = s.n) (h : ∀ j, s'.get j = s.get j) : Inv cmp w0 μ ι δ s' w :=
  ⟨I.below, fun id p hp => by rw [hn]; exact I.dom id p hp, I.io, fun id b p hb => I.blk id b p (by rw [← h]; exact hb),
    fun i j b1 b2 p1 p2 g1 g2 => I.sep i j b1 b2 p1 p2 (by rw [← h]; exact g1) (by rw [← h]; exact g2), I.defers, I.low⟩

/-- An old block of the small heap is given its place. -/
theorem Inv.place (I : Inv cmp w0 μ ι δ s w) (id : Nat) (hid : id < s.n) (hno : μ id = none) (p : Place) (b : Blk) (hg : s.get id = some b) (h1 : w0.heap.size ≤ p.b) (h2 : p.b < w.heap.size)
    (hb : Rb cmp μ ι w p b) (ho : b.owns = true → ∀ j b' p', s.get j = some b' → b'.owns = true → μ j = some p' → p'.b ≠ p.b) :
    Inv cmp w0 (μ.upd id p) ι δ s w ∧ Ext μ ι δ w (μ.upd id p) ι δ w := by
  have hle : ∀ j q, μ j = some q → (μ.upd id p) j = some q := fun j q h => by
    unfold Mu.upd
    rw [if_neg (fun e => by rw [e, hno] at h; cases h)]
    exact h
  have hRb : ∀ {q : Place} {b : Blk}, Rb cmp μ ι w q b → Rb cmp (μ.upd id p) ι w q b := fun h => h.mono hle (fun _ _ h => h) (fun _ _ _ => rfl) rfl (fun _ _ h => h)
  refine ⟨⟨I.below, ?_, I.io, ?_, ?_, I.defers, I.low⟩, ⟨hle, fun _ _ h => h, fun _ _ _ => rfl, Nat.le_refl _, fun _ h => h⟩⟩
  · intro j q hq
    unfold Mu.upd at hq
    split at hq
    · rename_i e; cases hq; subst e; exact ⟨hid, h1, h2⟩
    · exact I.dom j q hq
  · intro j b' q hb' hq
    unfold Mu.upd at hq
    split at hq
    · rename_i e; cases hq; subst e; rw [hg] at hb'; cases hb'; exact hRb hb
    · exact hRb (I.blk j b' q hb' hq)
  · intro i j b1 b2 p1 p2 g1 g2 o1 o2 m1 m2 e
    unfold Mu.upd at m1 m2
    by_cases e1 : i = id <;> by_cases e2 : j = id
    · omega
    · rw [if_pos e1] at m1; rw [if_neg e2] at m2; cases m1; subst e1; rw [hg] at g1; cases g1
      exact absurd e.symm (ho o1 j b2 p2 g2 o2 m2)
    · rw [if_neg e1] at m1; rw [if_pos e2] at m2; cases m2; subst e2; rw [hg] at g2; cases g2
      exact absurd e (ho o2 i b1 p1 g1 o1 m1)
    · rw [if_neg e1] at m1; rw [if_neg e2] at m2
      exact I.sep i j b1 b2 p1 p2 g1 g2 o1 o2 m1 m2 e

/-- A new block of the small heap that has no place yet. -/
theorem Inv.phantom (I : Inv cmp w0 μ ι δ s w) (b : Blk) : Inv cmp w0 μ ι δ (s.new b) w := by
  have hne : ∀ {id : Nat} {p : Place}, μ id = some p → id ≠ s.n := fun h e => by have := (I.dom _ _ h).1; omega
  refine ⟨I.below, fun id p hp => ⟨by have := (I.dom id p hp).1; simp; omega, (I.dom id p hp).2⟩, I.io, ?_, ?_, I.defers, I.low⟩
  · intro id b' p hb' hp
    rw [St.get_new, if_neg (hne hp)] at hb'
    exact I.blk id b' p hb' hp
  · intro i j b1 b2 p1 p2 g1 g2 o1 o2 m1 m2 e
    rw [St.get_new, if_neg (hne m1)] at g1
    rw [St.get_new, if_neg (hne m2)] at g2
    exact I.sep i j b1 b2 p1 p2 g1 g2 o1 o2 m1 m2 e

/-- More cells are immutable: none of a block that is owned. -/
theorem Inv.addIo (I : Inv cmp w0 μ ι δ s w) (C : Io) (hlow : ∀ b o, C b o → w0.heap.size ≤ b) (hex : ∀ b o, C b o → ∃ v, w.cell? ⟨b, o, none⟩ = some v)
    (hno : ∀ id b p, s.get id = some b → b.owns = true → μ id = some p → ∀ o, ¬ C p.b o) :
    Inv cmp w0 μ (fun b o => ι b o ∨ C b o) δ s w ∧ Ext μ ι δ w μ (fun b o => ι b o ∨ C b o) δ w := by
  refine ⟨⟨I.below, I.dom, ?_, ?_, I.sep, I.defers, fun b o h hb => h.elim (fun h => I.low b o h hb) (fun h => absurd (hlow b o h) (by omega))⟩, ⟨fun _ _ h => h, fun _ _ h => .inl h, fun _ _ _ => rfl, Nat.le_refl _, fun _ h => h⟩⟩
  · rintro b o (h | h)
    · exact I.io b o h
    · exact hex b o h
  · intro id b p hb hp
    refine (I.blk id b p hb hp).mono (fun _ _ h => h) (fun _ _ h => .inl h) (fun _ _ _ => rfl) rfl (fun ho i hi => ?_)
    rcases hi with hi | hi
    · exact hi
    · exact absurd hi (hno id b p hb ho hp i)

/-- A block's content told anew, its mode narrowed: mut to app, or as it was. -/
theorem Inv.recell (I : Inv cmp w0 μ ι δ s w) {id : Nat} {m m' : Md} {cs cs' : List LV} {p : Place} (hg : s.get id = some (.cells m cs)) (hp : μ id = some p) (hl : cs'.length = cs.length)
    (hm : m' = m ∨ (m = .mut ∧ m' = .app)) (hr : ∀ i x, i < cs.length → w.cell? ⟨p.b, p.off + i, none⟩ = some x → Rv μ ι w (cs'.getD i .top) x) :
    ∃ ι', Inv cmp w0 μ ι' δ (s.put id (.cells m' cs')) w ∧ Ext μ ι δ w μ ι' δ w ∧ (m' ≠ .mut → ∀ i, i < cs.length → ι' p.b (p.off + i)) := by
  have hb := I.blk id _ p hg hp
  obtain ⟨⟨x, h0⟩, h1, h2, h3, h4, h5, h6⟩ := hb
  have hsep : ∀ (b' : Blk), b'.owns = true → (m ≠ .ro) → ∀ i j b1 b2 p1 p2, (s.put id b').get i = some b1 → (s.put id b').get j = some b2 → b1.owns = true → b2.owns = true → μ i = some p1 → μ j = some p2 → p1.b = p2.b → i = j := by
    intro b' _ hro i j b1 b2 p1 p2 g1 g2 o1 o2 m1 m2 e
    rw [St.get_put] at g1 g2
    have f : ∀ {k : Nat} {b : Blk}, (if k = id then some b' else s.get k) = some b → b.owns = true → ∃ b', s.get k = some b' ∧ b'.owns = true := by
      intro k b h ho
      split at h
      · rename_i e; subst e; exact ⟨_, hg, by cases m <;> first | rfl | exact absurd rfl hro⟩
      · exact ⟨b, h, ho⟩
    obtain ⟨c1, k1, l1⟩ := f g1 o1
    obtain ⟨c2, k2, l2⟩ := f g2 o2
    exact I.sep i j c1 c2 p1 p2 k1 k2 l1 l2 m1 m2 e
  rcases hm with rfl | ⟨rfl, rfl⟩
  · -- the mode as it was
    refine ⟨ι, ⟨I.below, I.dom, I.io, ?_, ?_, I.defers, I.low⟩, Ext.refl _ _ _ _, h4⟩
    · intro id' b' q hb' hq
      rw [St.get_put] at hb'
      split at hb'
      · rename_i e; subst e; cases hb'
        obtain rfl : p = q := Option.some.inj (hp.symm.trans hq)
        refine ⟨⟨x, h0⟩, by rw [hl]; exact h1, fun i hi => ?_, h3, by rw [hl]; exact h4, h5, by rw [hl]; exact h6⟩
        obtain ⟨v, hv, hov, _⟩ := h2 i hi
        exact ⟨v, hv, hov, fun hc => hr i v (by rw [← hl]; exact hc) hv⟩
      · exact I.blk id' b' q hb' hq
    · by_cases hro : m' = .ro
      · subst hro
        intro i j b1 b2 p1 p2 g1 g2 o1 o2 m1 m2 e
        rw [St.get_put] at g1 g2
        split at g1
        · cases g1; cases o1
        · split at g2
          · cases g2; cases o2
          · exact I.sep i j b1 b2 p1 p2 g1 g2 o1 o2 m1 m2 e
      · exact hsep (.cells m' cs') (by cases m' <;> first | rfl | exact absurd rfl hro) hro
  · -- frozen
    let C : Io := fun b o => b = p.b ∧ ∃ i, i < cs.length ∧ o = p.off + i
    refine ⟨fun b o => ι b o ∨ C b o, ⟨I.below, I.dom, ?_, ?_, hsep (.cells .app cs') rfl (by simp), I.defers, fun b o h hb => h.elim (fun h => I.low b o h hb) (fun h => absurd (I.dom _ _ hp).2.1 (by have := h.1; omega))⟩, ⟨fun _ _ h => h, fun _ _ h => .inl h, fun _ _ _ => rfl, Nat.le_refl _, fun _ h => h⟩, fun _ i hi => .inr ⟨rfl, i, hi, rfl⟩⟩
    · rintro b o (h | ⟨rfl, i, hi, rfl⟩)
      · exact I.io b o h
      · obtain ⟨v, hv, _⟩ := h2 i (by omega); exact ⟨v, hv⟩
    · intro id' b' q hb' hq
      rw [St.get_put] at hb'
      split at hb'
      · rename_i e; subst e; cases hb'
        obtain rfl : p = q := Option.some.inj (hp.symm.trans hq)
        refine ⟨⟨x, h0⟩, by rw [hl]; exact h1, fun i hi => ?_, h3, fun _ i hi => .inr ⟨rfl, i, by rw [← hl]; exact hi, rfl⟩, (fun hm => by cases hm), fun _ i hl' hi hx => ?_⟩
        · obtain ⟨v, hv, hov, _⟩ := h2 i hi
          exact ⟨v, hv, hov, fun hc => (hr i v (by rw [← hl]; exact hc) hv).mono (fun _ _ _ => rfl) (fun _ _ h => h) (fun _ _ h => .inl h)⟩
        · rcases hx with hx | ⟨_, j, hj, e⟩
          · exact h5 rfl i hi hx
          · omega
      · rename_i e
        refine (I.blk id' b' q hb' hq).mono (fun _ _ h => h) (fun _ _ h => .inl h) (fun _ _ _ => rfl) rfl (fun ho i hi => ?_)
        rcases hi with hi | ⟨eb, _⟩
        · exact hi
        · exact absurd (I.sep id' id b' _ q p hb' hg ho rfl hq hp eb) e

/-- A block is written no more. -/
theorem Inv.toRo (I : Inv cmp w0 μ ι δ s w) {id : Nat} {m : Md} {cs cs' : List LV} {p : Place} (hg : s.get id = some (.cells m cs)) (hp : μ id = some p) (h : cs' = [] ∨ (m = .app ∧ cs' = cs)) :
    Inv cmp w0 μ ι δ (s.put id (.cells .ro cs')) w ∧ (∀ j b p p', (s.put id (.cells .ro cs')).get j = some b → b.owns = true → m ≠ .ro → μ j = some p → μ id = some p' → p.b ≠ p'.b) := by
  obtain ⟨⟨x, h0⟩, h1, h2, h3, h4, h5, h6⟩ := I.blk id _ p hg hp
  refine ⟨⟨I.below, I.dom, I.io, ?_, ?_, I.defers, I.low⟩, ?_⟩
  · intro id' b' q hb' hq
    rw [St.get_put] at hb'
    split at hb'
    · rename_i e; subst e; cases hb'
      obtain rfl : p = q := Option.some.inj (hp.symm.trans hq)
      refine ⟨⟨x, h0⟩, ?_, fun i hi => ?_, h3, ?_, (fun hm => by cases hm), (fun hm => by cases hm)⟩
      · rcases h with rfl | ⟨_, rfl⟩
        · simp
        · exact h1
      · obtain ⟨v, hv, hov, hr⟩ := h2 i hi
        refine ⟨v, hv, hov, fun hc => ?_⟩
        rcases h with rfl | ⟨_, rfl⟩
        · simp at hc
        · exact hr hc
      · intro _ i hi
        rcases h with rfl | ⟨hm, rfl⟩
        · simp at hi
        · exact h4 (by rw [hm]; simp) i hi
    · exact I.blk id' b' q hb' hq
  · intro i j b1 b2 p1 p2 g1 g2 o1 o2 m1 m2 e
    rw [St.get_put] at g1 g2
    split at g1
    · cases g1; cases o1
    · split at g2
      · cases g2; cases o2
      · exact I.sep i j b1 b2 p1 p2 g1 g2 o1 o2 m1 m2 e
  · intro j b q p' gj oj hm hq hp' e
    rw [St.get_put] at gj
    split at gj
    · cases gj; cases oj
    · rename_i hne
      exact hne (I.sep j id b _ q p' gj hg oj (by cases m <;> first | rfl | exact absurd rfl hm) hq hp' e)

/-- Writes into a block that nobody owns. -/
theorem Inv.wroteFree (I : Inv cmp w0 μ ι δ s w) {b o : Nat} {vs : List Value} (W : Wrote b o vs w w') (hB : w0.heap.size ≤ b) (ho1 : ∀ i, i < vs.length → (vs.getD i undef).oneCell' = true) (hn : ∀ i, i < vs.length → ¬ ι b (o + i))
    (hs : ∃ x, w.shape? b = some x) (hfree : ∀ j bl p, s.get j = some bl → bl.owns = true → μ j = some p → p.b ≠ b) : Inv cmp w0 μ ι δ s w' ∧ Ext μ ι δ w μ ι δ w' := by
  have hcell := wrote_cell W hn
  refine ⟨⟨Below.wrote I.below W hB, fun i q hq => by have := I.dom i q hq; rw [W.size]; exact this, fun b o hi => ?_, fun id b' p hb' hp => ?_, I.sep, fun r hr => ?_, I.low⟩,
    ⟨fun _ _ h => h, fun _ _ h => h, hcell, Nat.le_of_eq W.size.symm, fun _ h => h⟩⟩
  · obtain ⟨v, hv⟩ := I.io b o hi
    exact ⟨v, (hcell b o hi).trans hv⟩
  · exact (I.blk id b' p hb' hp).wrote W ho1 hcell (fun ho => hfree id b' p hb' ho hp)
  · obtain ⟨a, c⟩ := I.defers r hr
    refine ⟨a, ?_⟩
    rw [W.block r ?_]
    · exact c
    · rintro rfl
      obtain ⟨x, h0⟩ := hs
      simp [World.shape?, c] at h0

end
end Go.Pv
