/- Operations that write memory: boxes, stores, appends, copies. -/
import Derived.Test.YtmfpcofncfhklaaPvFrz
set_option linter.unusedSimpArgs false
namespace Go.Pv
open Go Go.RowKit

section
variable {P : Program} {w : World} {w0 : Bs} {μ : Mu} {ι : Io} {δ : Nat → Prop} {s s' : St} {cmp : Nat → LCode → Code → Prop} {c : Ctx} {e : Env} {a : Act} {o : Oper} {v : LV}

def OpOk (cmp : Nat → LCode → Code → Prop) (w0 : Bs) (μ : Mu) (ι : Io) (δ : Nat → Prop) (s : St) (w : World) (P : Program) (a : Act) (o : Oper) (v : LV) (s' : St) : Prop :=
  ∃ x w' μ' ι', ((execOp a.eval o).run P w = .ok (.value x) w' ∨ ((execOp a.eval o).run P w = .ok .skip w' ∧ x = undef)) ∧
    Inv cmp w0 μ' ι' δ s' w' ∧ Ext μ ι δ w μ' ι' δ w' ∧ Rv μ' ι' w' v x ∧ Kept μ s μ' s'

theorem Kept.trans {s'' : St} {μ' μ'' : Mu} (h : Kept μ s μ' s') (k : Kept μ' s' μ'' s'') : Kept μ s μ'' s'' :=
  ⟨Nat.le_trans h.n k.n, fun id hid hm => (k.get id (Nat.lt_of_lt_of_le hid h.n) (h.free id hid hm)).trans (h.get id hid hm),
   fun id hid hm => k.free id (Nat.lt_of_lt_of_le hid h.n) (h.free id hid hm)⟩

theorem Kept.of_frz (h : FrzStep μ s s') : Kept μ s μ s' := ⟨Nat.le_of_eq h.n.symm, fun id _ hm => h.kept id hm, fun _ _ h => h⟩

theorem Mu.upd_none {k : Nat} {p : Place} {id : Nat} (h : id ≠ k) (hm : μ id = none) : μ.upd k p id = none := by rw [Mu.upd, if_neg h]; exact hm
theorem Kept.new (b : Blk) (p : Place) : Kept μ s (μ.upd s.n p) (s.new b) := ⟨by simp, fun id hid _ => by rw [St.get_new, if_neg (by omega)], fun id hid hm => Mu.upd_none (by omega) hm⟩
theorem Kept.put {id : Nat} {p : Place} (hp : μ id = some p) (b : Blk) : Kept μ s μ (s.put id b) := ⟨Nat.le_refl _, fun j _ hm => (by rw [St.get_put, if_neg]; rintro rfl; rw [hp] at hm; cases hm), fun _ _ h => h⟩

/-- Looks. -/
theorem ok_look (I : Inv cmp w0 μ ι δ s w) (h : Looks μ ι w P a o v) : OpOk cmp w0 μ ι δ s w P a o v s :=
  let ⟨x, hx, hr⟩ := h; ⟨x, w, μ, ι, .inl hx, I, Ext.refl _ _ _ _, hr, Kept.refl _ _⟩

/-- Rows made. -/
theorem ok_row (I : Inv cmp w0 μ ι δ s w) {lo : LOp} (hm : Op.makes o.op = true) (hl : isRow lo = true) (hc : compOp c o = some lo) (hρ : Ho μ ι w c e a o) (hr : lo.run e s = some (v, s')) :
    OpOk cmp w0 μ ι δ s w c.P a o v s' := by
  obtain ⟨cs, arr, T, x, rfl, hrow, h1, h2, h3, h4⟩ := row_sound hm hl hc hρ hr
  obtain ⟨I', x'⟩ := I.newCells T arr cs h1 h3 h2
  exact ⟨x, _, _, ι, .inl hrow, I', x', h4 _ _ _ (by simp [Mu.upd]), Kept.new _ _⟩

/-- A box that is never written. -/
theorem ok_box {t : TypeId} {x : Operand} (ho : o.op = .box t x) (I : Inv cmp w0 μ ι δ s w) (hρ : Ho μ ι w c e a o) {y : Opd} (hy : opd c x = some y) (hr : (LOp.box true y).run e s = some (v, s')) :
    OpOk cmp w0 μ ι δ s w c.P a o v s' := by
  have hx := hρ x y (by simp [ho, Op.operands]) hy
  unfold LOp.run at hr
  dsimp only at hr
  obtain ⟨⟨v1, s1⟩, h1, hr⟩ := bind_some hr
  obtain ⟨cs, hcs, hr⟩ := bind_some hr
  split at hr
  · cases hr
  · cases hr
    obtain ⟨ι1, I1, x1, rv1, f1⟩ := frz_ok frzDepth _ _ _ _ ι _ h1 I hx
    obtain ⟨k1, k2, k3⟩ := cells_rel rv1 hcs
    obtain ⟨I2, x2, hcell⟩ := I1.newImm t (a.eval x).cells
    refine ⟨.pointer (some ⟨w.heap.size, 0, none⟩), _, μ, _, .inl ?_, I2, x1.trans x2, ?_, Kept.of_frz f1⟩
    · simp [execOp, ho, Instr.box, newVar, newRow]
    · have hone := Ra.one (μ := μ) (ι := ι1) (w := w) ⟨k1, k2⟩ (by simpa using k3)
      refine .pimm (o := 0) (off := 0) (fun i => (a.eval x).cells.getD i undef) (fun i hi => ?_) (fun i hi => .inr ⟨rfl, by rw [Nat.zero_add, k1]; exact hi⟩) (fun i hi => hone i (by rw [k1]; exact hi)) (fun i hi => (k2 i hi).ext x2)
      have hi' : i < (a.eval x).cells.size := by rw [k1]; exact hi
      rw [Nat.zero_add, hcell]
      simp [Array.getD_eq_getD_getElem?, hi']

/-- A store. -/
theorem ok_store {t : TypeId} {ad x : Operand} (ho : o.op = .store t ad x) (I : Inv cmp w0 μ ι δ s w) (hρ : Ho μ ι w c e a o) {n : Nat} (hn : szOf c.P t = some n) {ya y : Opd} (hya : opd c ad = some ya) (hy : opd c x = some y)
    (hr : (LOp.store n ya y).run e s = some (v, s')) : OpOk cmp w0 μ ι δ s w c.P a o v s' := by
  have ha := hρ ad ya (by simp [ho, Op.operands]) hya
  have hx := hρ x y (by simp [ho, Op.operands]) hy
  unfold LOp.run at hr
  dsimp only at hr
  generalize ya.ev e = la at *
  generalize y.ev e = lx at *
  generalize haa : a.eval ad = aa at *
  generalize hax : a.eval x = ax at *
  cases ha <;> try (cases hr; done)
  rename_i id off p hp
  cases hcx : cells? lx with
  | none => rw [hcx] at hr; cases hr
  | some new =>
    rw [hcx] at hr
    dsimp only at hr
    split at hr
    · rename_i cs hg
      split at hr
      · rename_i hb
        cases hr
        obtain ⟨k1, k2, k3⟩ := cells_rel hx hcx
        have hone := Ra.one (μ := μ) (ι := ι) (w := w) ⟨k1, k2⟩ (by simpa using k3)
        obtain ⟨_, h1, h2, h3, _, _, _⟩ := I.blk id _ p hg hp
        have hlen : ax.cells.toList.length = new.length := by simpa using k1
        obtain ⟨w', hw', W⟩ := run_storeCells (P := c.P) p.b (p.off + off) ax.cells.toList 0 w (cells_one hx hcx) (fun j hj => by
            obtain ⟨u, hu, _⟩ := h2 (off + j) (by omega)
            exact ⟨u, by rw [← hu]; congr 2; omega⟩) (fun j hj => by
            have := h3 (off + j) (by omega)
            rw [← this]; congr 2; omega)
        rw [Nat.add_zero] at W
        have hgd : ∀ i, ax.cells.toList.getD i undef = ax.cells.getD i undef := fun i => by simp [List.getD_eq_getElem?_getD, Array.getD_eq_getD_getElem?]
        obtain ⟨I', x'⟩ := I.write hg hp new ax.cells.toList hlen (by omega) (fun i hi => by rw [hgd]; exact k2 i hi) (fun i hi => by rw [hgd]; exact hone i (by simpa using hi)) W
        refine ⟨undef, w', μ, ι, .inr ⟨?_, rfl⟩, I', x', .tup rfl (fun i hi => absurd hi (Nat.not_lt_zero _)), Kept.put hp _⟩
        have hsz : ax.cells.size = n := by rw [k1, hb.1]
        have hst : (storeVar t ⟨p.b, p.off + off, none⟩ ax).run c.P w = .ok () w' := by
          simp only [storeVar, Sem.run_bind, rsz hn, Result.andThen_ok, Sem.run_ite]
          rw [if_neg (by simp [hsz])]
          exact hw'
        simp [execOp, ho, haa, hax, Instr.storeAt, Instr.sureAddr, hst]
      · cases hr
    · cases hr

/-- The first cells of a slice. -/
theorem rowOf_rel (I : Inv cmp w0 μ ι δ s w) {esz n : Nat} {v : LV} {x : Value} {new : List LV} (hv : Rv μ ι w v x) (h : rowOf s esz n v = some new) :
    ∃ arr, (∀ w', Same w w' → (Builtin.firstCells esz n x).run P w' = .ok arr w') ∧ Ra μ ι w new arr ∧ (∀ i, i < arr.size → (arr.getD i undef).oneCell' = true) ∧ new.length = n * esz := by
  have key : ∀ (b o off : Nat) (cs : List LV), off + n * esz ≤ cs.length → (∀ i, i < cs.length → ∃ x, w.cell? ⟨b, o + i, none⟩ = some x ∧ x.oneCell' = true ∧ Rv μ ι w (cs.getD i .top) x) → ∀ o', (n * esz ≠ 0 → o' = o + off) →
      ∃ arr, (∀ w', Same w w' → (loadCells ⟨b, o', none⟩ (n * esz)).run P w' = .ok arr w') ∧ Ra μ ι w ((cs.drop off).take (n * esz)) arr ∧ (∀ i, i < arr.size → (arr.getD i undef).oneCell' = true) ∧ ((cs.drop off).take (n * esz)).length = n * esz := by
    intro b o off cs hin hc o' ho'
    have hch : ∀ i, ∃ x, i < n * esz → (w.cell? ⟨b, o + off + i, none⟩ = some x ∧ x.oneCell' = true ∧ Rv μ ι w (cs.getD (off + i) .top) x) := fun i => by
      by_cases hi : i < n * esz
      · obtain ⟨x, hx, ho, hr⟩ := hc (off + i) (by omega)
        exact ⟨x, fun _ => ⟨by rw [← hx]; congr 2; omega, ho, hr⟩⟩
      · exact ⟨undef, fun h => absurd h hi⟩
    let f : Nat → Value := fun i => Classical.choose (hch i)
    have hf : ∀ i, i < n * esz → (w.cell? ⟨b, o + off + i, none⟩ = some (f i) ∧ (f i).oneCell' = true ∧ Rv μ ι w (cs.getD (off + i) .top) (f i)) := fun i hi => Classical.choose_spec (hch i) hi
    have hrun : ∀ w', Same w w' → (loadCells ⟨b, o', none⟩ (n * esz)).run P w' = .ok ((List.range (n * esz)).map f).toArray w' := fun w' hs => by
      have hrun := run_loadCells (P := P) (w := w') b o' ((List.range (n * esz)).map f) (fun j hj => by
        have hj' : j < n * esz := by simpa using hj
        rw [ho' (by omega), hs.cell (hf j hj').1]
        simp [List.getD_eq_getElem?_getD, hj'])
      rwa [List.length_map, List.length_range] at hrun
    have hlen : ((cs.drop off).take (n * esz)).length = n * esz := by simp; omega
    refine ⟨_, hrun, ⟨by simp [hlen], fun i hi => ?_⟩, fun i hi => ?_, hlen⟩
    · rw [hlen] at hi
      rw [getD_drop_take _ _ _ _ hi]
      have := (hf i hi).2.2
      simpa [Array.getD_eq_getD_getElem?, hi] using this
    · have hi' : i < n * esz := by simpa using hi
      have := (hf i hi').2.1
      simpa [Array.getD_eq_getD_getElem?, hi'] using this
  cases hv <;> simp only [rowOf, reduceCtorEq] at h
  case nils =>
    split at h
    · rename_i h0; cases h; subst h0
      exact ⟨#[], fun w' _ => by simp [Builtin.firstCells], ⟨rfl, fun i hi => absurd hi (Nat.not_lt_zero _)⟩, fun i hi => absurd hi (Nat.not_lt_zero _), by simp⟩
    · cases h
  case zs =>
    split at h
    · rename_i h0; cases h; subst h0
      exact ⟨#[], fun w' _ => by simp [Builtin.firstCells, loadCells, loadCellsFrom], ⟨rfl, fun i hi => absurd hi (Nat.not_lt_zero _)⟩, fun i hi => absurd hi (Nat.not_lt_zero _), by simp⟩
    · cases h
  case str b =>
    split at h
    · rename_i h0; cases h
      obtain ⟨rfl, h0⟩ := h0
      refine ⟨(b.extract 0 n).data.map fun b => .int .u8 b.toNat, fun w' _ => by simp [Builtin.firstCells], ?_, ?_, ?_⟩
      · have hb : (b.extract 0 n).data.toList = b.data.toList.take n := by simp
        have he : ((b.extract 0 n).data.map fun b => Value.int .u8 b.toNat) = ((b.data.toList.take n).map fun b => Value.int .u8 b.toNat).toArray := by
          apply Array.ext'; simp
        rw [he]
        refine ⟨by simp, fun i hi => ?_⟩
        have hi' : i < (b.data.toList.take n).length := by simpa using hi
        simp only [List.getD_eq_getElem?_getD, List.getElem?_map, Array.getD_eq_getD_getElem?, List.getElem?_toArray, List.getElem?_eq_getElem hi', Option.map_some, Option.getD_some]
        exact .int _ _
      · intro i hi
        have hi' : i < (b.extract 0 n).data.size := by simpa using hi
        simp only [Array.getD_eq_getD_getElem?, Array.getElem?_map, Array.getElem?_eq_getElem hi', Option.map_some, Option.getD_some]
        rfl
      · have : b.size = b.data.toList.length := by simp
        simp; omega
    · cases h
  case simm cs len b o cap vs hc hi ho1 hr hlc =>
    split at h
    · rename_i h0; cases h
      have : n * esz ≤ len * esz := Nat.mul_le_mul_right _ h0.1
      have := key b o 0 cs (by omega) (fun i hi => ⟨vs i, hc i hi, ho1 i hi, hr i hi⟩) o (fun _ => rfl)
      simpa [Builtin.firstCells] using this
    · cases h
  case sref id off len es cap p off' hp hcap hlc had =>
    split at h
    · rename_i m cs hg
      split at h
      · rename_i h0; cases h
        have h2 : n * esz ≤ len * esz := Nat.mul_le_mul_right _ h0.2.1
        have := key p.b p.off off cs (by omega) (I.cellsAt1 hg hp) (p.off + off') (fun hne => by
          rw [had (by rintro rfl; have : n = 0 := by omega
                      subst this; simp at hne)])
        simpa [Builtin.firstCells] using this
      · cases h
    · cases h

end
end Go.Pv
