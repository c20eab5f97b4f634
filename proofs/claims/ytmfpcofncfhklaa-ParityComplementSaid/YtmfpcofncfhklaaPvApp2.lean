/- append, as a step of the relation. -/
import Derived.Test.YtmfpcofncfhklaaPvApp
set_option linter.unusedSimpArgs false
set_option linter.unusedVariables false
namespace Go.Pv
open Go Go.RowKit

section
variable {P : Program} {w : World} {w0 : Bs} {μ : Mu} {ι : Io} {δ : Nat → Prop} {s s' : St} {cmp : Nat → LCode → Code → Prop} {c : Ctx} {e : Env} {a : Act} {o : Oper} {v : LV}

theorem grown_size {old new z : Array Value} {l n k m nc : Nat} (h1 : old.size = l * m) (h2 : new.size = n * m) (h3 : z.size = k * m) (hk : k = nc - (l + n)) (hle : l + n ≤ nc) : nc * m ≤ (old ++ new ++ z).size := by
  have : nc = l + n + k := by omega
  subst this
  simp only [Array.size_append, h1, h2, h3]
  rw [Nat.add_mul, Nat.add_mul]
  exact Nat.le_refl _

theorem sref_new {μ : Mu} {ι : Io} {w : World} {k b len nc esz sz : Nat} (h : nc * esz ≤ sz) (hl : len ≤ nc) : Rv (μ.upd k ⟨b, 0, sz⟩) ι w (.sref k 0 len esz) (.slice (some ⟨b, 0, none⟩) len nc) :=
  .sref (off := 0) (off' := 0) (p := ⟨b, 0, sz⟩) (by simp [Mu.upd]) (by simpa using h) hl (fun _ => rfl)

/-- An owned row is taken over by a new name, at an offset, in the same place (nothing written). -/
def AppRun (P : Program) (w : World) (t u ty : TypeId) (xv yv : Value) (r : Value) (w' : World) : Prop := (Builtin.append_ #[t, u] ty #[xv, yv]).run P w = .ok r w'

theorem app_sound {t u el ty : TypeId} {d : TypeDesc} {i : TypeInfo} {z : List LV} (ht : P.underlying t = some (.slice el)) (hu : P.underlying u = some d) (hd : isSeq d = true) (hi : P.info? el = some i)
    (hs0 : i.size ≠ 0) (hb0 : i.bytes ≠ 0) (hz : zeroC P el = some z) (hzl : z.length = i.size)
    (I : Inv cmp w0 μ ι δ s w) {lx : LV} {xv yv : Value} (hx : Rv μ ι w lx xv) {n : Nat} (hl : Builtin.lenOf yv = Sem.pure n) {new : List LV} {arr : Array Value}
    (hnew : ∀ w', Same w w' → (Builtin.firstCells i.size n yv).run P w' = .ok arr w') (hra : Ra μ ι w new arr) (hone : ∀ i, i < arr.size → (arr.getD i undef).oneCell' = true) (hnl : new.length = n * i.size)
    (hr : appendLV i.size i.bytes lx new n s = some (v, s')) :
    ∃ r w' μ' ι', AppRun P w t u ty xv yv r w' ∧ Inv cmp w0 μ' ι' δ s' w' ∧ Ext μ ι δ w μ' ι' δ w' ∧ Rv μ' ι' w' v r ∧ Kept μ s μ' s' := by
  obtain ⟨i', zv, hi', hzv⟩ : ∃ i' zv, P.info? el = some i' ∧ i'.zero = some zv ∧ ∃ x, constC zv = some x ∧ cells? x = some z := by
    unfold zeroC at hz
    obtain ⟨i', h1, hz⟩ := bind_some hz
    obtain ⟨zv, h2, hz⟩ := bind_some hz
    obtain ⟨x, h3, hz⟩ := bind_some hz
    exact ⟨i', zv, h1, h2, x, h3, hz⟩
  obtain rfl : i = i' := Option.some.inj (hi.symm.trans hi')
  obtain ⟨hzv, zx, hzx, hzc⟩ := hzv
  obtain ⟨hz1, hz2, hz3⟩ := cells_rel (rv_constC (μ := μ) (ι := ι) (w := w) hzx) hzc
  have hz4 := Ra.one (μ := μ) (ι := ι) (w := w) ⟨hz1, hz2⟩ (by simpa using hz3)
  have harr : arr.size = n * i.size := by rw [hra.1, hnl]
  have hdrew : Same w w.drew := Same.drew w
  have Id := I.same hdrew
  have xd := I.ext_same hdrew
  have hrad : Ra μ ι w.drew new arr := ⟨hra.1, fun j hj => (hra.2 j hj).ext xd⟩
  cases hx <;> simp only [appendLV, reduceCtorEq] at hr
  case nils =>
    split at hr
    · rename_i hn; cases hr; subst hn
      refine ⟨.slice none 0 0, w, μ, ι, ?_, I, Ext.refl _ _ _ _, .nils, Kept.refl _ _⟩
      exact append_fits ht hu hd hi hl (Nat.le_refl _) (hnew w (Same.refl w)) (fun b h => by cases h) (fun _ => rfl)
    · rename_i hn
      split at hr
      · rename_i hb; cases hr
        have hold : (Builtin.firstCells i.size 0 (.slice none 0 0)).run P w.drew = .ok #[] w.drew := by simp [Builtin.firstCells]
        obtain ⟨nc, hnc, hrun⟩ := append_grows (ty := ty) ht hu hd hi hl (by omega) hb0 (by unfold big at hb; rw [Nat.zero_add]; exact hb.1) hzv hold (hnew _ hdrew)
        have hempty : Ra μ ι w.drew [] #[] := ⟨rfl, fun j hj => absurd hj (Nat.not_lt_zero _)⟩
        obtain ⟨g1, g2⟩ := grow_row hempty hrad (Builtin.zeroCells zv.cells (nc - (0 + n)))
        rw [List.nil_append] at g1 g2
        have hone' := one_append (one_append (us := #[]) (fun j hj => by simp at hj) hone) (zeroCells_one hz4 (nc - (0 + n)))
        obtain ⟨I2, x2⟩ := Id.newCells el _ new g1 hone' g2
        refine ⟨_, _, _, ι, hrun, I2, xd.trans x2, ?_, Kept.new _ _⟩
        rw [Nat.zero_add]
        exact sref_new (grown_size (l := 0) (n := n) (k := nc - (0 + n)) (by simp) harr (by simp [zeroCells_size, hz1, hzl]) rfl hnc) (by omega)
      · cases hr
  case zs za =>
    split at hr
    · rename_i hn; cases hr; subst hn
      refine ⟨.slice (some za) 0 0, w, μ, ι, ?_, I, Ext.refl _ _ _ _, .zs _, Kept.refl _ _⟩
      exact append_fits ht hu hd hi hl (Nat.le_refl _) (hnew w (Same.refl w)) (fun b h => by
        cases h
        have : arr.toList = [] := List.length_eq_zero_iff.1 (by simpa using harr)
        rw [this]; simp [storeCells]) (fun h => by cases h)
    · rename_i hn
      split at hr
      · rename_i hb; cases hr
        have hold : (Builtin.firstCells i.size 0 (.slice (some za) 0 0)).run P w.drew = .ok #[] w.drew := by simp [Builtin.firstCells, loadCells, loadCellsFrom]
        obtain ⟨nc, hnc, hrun⟩ := append_grows (ty := ty) ht hu hd hi hl (by omega) hb0 (by unfold big at hb; rw [Nat.zero_add]; exact hb.1) hzv hold (hnew _ hdrew)
        have hempty : Ra μ ι w.drew [] #[] := ⟨rfl, fun j hj => absurd hj (Nat.not_lt_zero _)⟩
        obtain ⟨g1, g2⟩ := grow_row hempty hrad (Builtin.zeroCells zv.cells (nc - (0 + n)))
        rw [List.nil_append] at g1 g2
        have hone' := one_append (one_append (us := #[]) (fun j hj => by simp at hj) hone) (zeroCells_one hz4 (nc - (0 + n)))
        obtain ⟨I2, x2⟩ := Id.newCells el _ new g1 hone' g2
        refine ⟨_, _, _, ι, hrun, I2, xd.trans x2, ?_, Kept.new _ _⟩
        rw [Nat.zero_add]
        exact sref_new (grown_size (l := 0) (n := n) (k := nc - (0 + n)) (by simp) harr (by simp [zeroCells_size, hz1, hzl]) rfl hnc) (by omega)
      · cases hr
  case sref id off len esz cap p off' hp hcap hlc had =>
    split at hr
    · rename_i hes
      subst hes
      have hold : ∀ {s : St} {w : World} {ι : Io} (_ : Inv cmp w0 μ ι δ s w) {m : Md} {cs : List LV}, s.get id = some (.cells m cs) → off + len * i.size ≤ cs.length → ∃ old, (∀ w', Same w w' → (Builtin.firstCells i.size len (.slice (some ⟨p.b, p.off + off', none⟩) len cap)).run P w' = .ok old w') ∧
          Ra μ ι w ((cs.drop off).take (len * i.size)) old ∧ (∀ i, i < old.size → (old.getD i undef).oneCell' = true) ∧ ((cs.drop off).take (len * i.size)).length = len * i.size := by
        intro s w ι I m cs hg hin
        refine rowOf_rel (P := P) I (.sref hp hcap hlc had) (new := (cs.drop off).take (len * i.size)) ?_
        simp only [rowOf, hg]
        rw [if_pos ⟨trivial, Nat.le_refl _, hin⟩]
      have hdom := I.dom id p hp
      split at hr
      · -- written so far
        rename_i cs hg
        split at hr
        · rename_i hb
          cases hr
          obtain ⟨hin, hbig, _⟩ := hb
          have hblk := I.blk id _ p hg hp
          obtain ⟨⟨sh, hsh⟩, k1, k2, k3, k4, k5, k6⟩ := hblk
          obtain ⟨old, ho1, ho2, ho3, ho4⟩ := hold I hg hin
          obtain ⟨J, hfree⟩ := I.toRo (cs' := []) hg hp (.inl rfl)
          have hkp : ∀ q, Kept μ s (μ.upd s.n q) ((s.put id (.cells .ro [])).new (.cells .mut ((cs.drop off).take (len * i.size) ++ new))) := by
            refine fun q => ⟨by simp, fun j hj hm => ?_, fun j hj hm => Mu.upd_none (by omega) hm⟩
            rw [St.get_new, if_neg (by simp; omega), St.get_put, if_neg]
            rintro rfl
            rw [hp] at hm; cases hm
          by_cases hfit : len + n ≤ cap
          · -- in place
            have hcell : ∀ j, j < arr.toList.length → ∃ v, w.cell? ⟨p.b, (p.off + off' + len * i.size) + (0 + j), none⟩ = some v := fun j hj => by
              have hj' : j < n * i.size := by rw [← harr]; simpa using hj
              have hc0 : cap ≠ 0 := by rintro rfl; have : n = 0 := by omega
                                       subst this; simp at hj'
              have h2 : (len + n) * i.size ≤ cap * i.size := Nat.mul_le_mul_right _ hfit
              rw [Nat.add_mul] at h2
              obtain ⟨v, hv, _⟩ := k2 (off + len * i.size + j) (by omega)
              exact ⟨v, by rw [← hv, had hc0]; congr 2; omega⟩
            have hfro : ∀ j, j < arr.toList.length → w.frozen? ⟨p.b, (p.off + off' + len * i.size) + (0 + j), none⟩ = false := fun j hj => by
              have hj' : j < n * i.size := by rw [← harr]; simpa using hj
              have hc0 : cap ≠ 0 := by rintro rfl; have : n = 0 := by omega
                                       subst this; simp at hj'
              have h2 : (len + n) * i.size ≤ cap * i.size := Nat.mul_le_mul_right _ hfit
              rw [Nat.add_mul] at h2
              have := k3 (off + len * i.size + j) (by omega)
              rw [← this, had hc0]; congr 2; omega
            have hgd : ∀ j, arr.toList.getD j undef = arr.getD j undef := fun j => by simp [List.getD_eq_getElem?_getD, Array.getD_eq_getD_getElem?]
            have hone' : ∀ y ∈ arr.toList, y.oneCell' = true := fun y hy => by
              obtain ⟨j, hj, rfl⟩ := List.getElem_of_mem hy
              have hj' : j < arr.size := by simpa using hj
              have := hone j hj'
              simpa [Array.getD_eq_getD_getElem?, hj'] using this
            obtain ⟨w', hw', W⟩ := run_storeCells (P := P) p.b (p.off + off' + len * i.size) arr.toList 0 w hone' hcell hfro
            rw [Nat.add_zero] at W
            have hnio : ∀ j, j < arr.toList.length → ¬ ι p.b ((p.off + off' + len * i.size) + j) := fun j hj => by
              have hj' : j < n * i.size := by rw [← harr]; simpa using hj
              have hc0 : cap ≠ 0 := by rintro rfl; have : n = 0 := by omega
                                       subst this; simp at hj'
              have h2 : (len + n) * i.size ≤ cap * i.size := Nat.mul_le_mul_right _ hfit
              rw [Nat.add_mul] at h2
              have := k5 rfl (off + len * i.size + j) (by omega)
              rwa [show p.off + (off + len * i.size + j) = p.off + off' + len * i.size + j from by rw [had hc0]; omega] at this
            obtain ⟨J2, x2⟩ := J.wroteFree W hdom.2.1 (fun j hj => by rw [hgd]; exact hone j (by simpa using hj)) hnio ⟨sh, hsh⟩ (fun j b q hj hb hq => hfree j b q p hj hb (by simp) hq hp)
            have hrun : AppRun P w t u ty (.slice (some ⟨p.b, p.off + off', none⟩) len cap) yv (.slice (some ⟨p.b, p.off + off', none⟩) (len + n) cap) w' :=
              append_fits ht hu hd hi hl hfit (hnew w (Same.refl w)) (fun b hb => by cases hb; rw [add_mk]; exact hw') (fun h => by cases h)
            by_cases hc0 : cap = 0
            · have hl0 : len = 0 := by omega
              have hn0 : n = 0 := by omega
              subst hc0; subst hl0; subst hn0
              have hnew0 : new = [] := by have : new.length = 0 := by rw [hnl]; simp
                                          exact List.length_eq_zero_iff.1 this
              subst hnew0
              obtain ⟨J3, x3⟩ := J2.addBlk ⟨p.b, p.off + off', 0⟩ (.cells .mut ((cs.drop off).take (0 * i.size) ++ [])) hdom.2.1 (by rw [W.size]; exact hdom.2.2)
                ⟨⟨sh, by rw [W.shape]; exact hsh⟩, by simp, fun j hj => absurd hj (Nat.not_lt_zero _), fun j hj => absurd hj (Nat.not_lt_zero _), fun h => absurd rfl h, fun _ j hj => absurd hj (Nat.not_lt_zero _), fun h => by cases h⟩
                (fun _ j b q hj hb hq => hfree j b q p hj hb (by simp) hq hp)
              exact ⟨_, w', _, ι, hrun, J3, x2.trans x3, .sref (off := 0) (off' := 0) (p := ⟨p.b, p.off + off', 0⟩) (by simp [Mu.upd]) (by simp) (by omega) (fun h => absurd rfl h), hkp _⟩
            · have ho' := had hc0
              subst ho'
              have hcapE : (len + n) * i.size ≤ cap * i.size := Nat.mul_le_mul_right _ hfit
              rw [Nat.add_mul] at hcapE
              have hlc' : ((cs.drop off').take (len * i.size) ++ new).length = len * i.size + n * i.size := by rw [List.length_append, ho4, hnl]
              have hcells : ∀ j, j < p.cap - off' → ∃ v, w'.cell? ⟨p.b, p.off + off' + j, none⟩ = some v ∧ v.oneCell' = true ∧ (j < ((cs.drop off').take (len * i.size) ++ new).length → Rv μ ι w' (((cs.drop off').take (len * i.size) ++ new).getD j .top) v) := by
                intro j hj
                obtain ⟨v, hv, hov, hrv⟩ := k2 (off' + j) (by omega)
                by_cases h1 : j < len * i.size
                · refine ⟨v, ?_, hov, fun _ => ?_⟩
                  · rw [W.miss _ (by simp only; omega)]; rw [← hv]; congr 2; omega
                  · rw [List.getD_eq_getElem?_getD, List.getElem?_append_left (by rw [ho4]; exact h1), ← List.getD_eq_getElem?_getD, getD_drop_take _ _ _ _ h1]
                    exact (hrv (by omega)).ext x2
                · by_cases h2 : j < len * i.size + n * i.size
                  · have hh := W.hit (j - len * i.size) (by rw [Array.length_toList, harr]; omega)
                    rw [show p.off + off' + len * i.size + (j - len * i.size) = p.off + off' + j from by omega] at hh
                    refine ⟨_, hh, by rw [hgd]; exact hone _ (by rw [harr]; omega), fun _ => ?_⟩
                    rw [List.getD_eq_getElem?_getD, List.getElem?_append_right (by rw [ho4]; omega), ← List.getD_eq_getElem?_getD, ho4, hgd]
                    exact (hra.2 _ (by rw [hnl]; omega)).ext x2
                  · refine ⟨v, ?_, hov, fun hc => absurd hc (by rw [hlc']; exact h2)⟩
                    rw [W.miss _ (by simp only [Array.length_toList, harr]; omega)]; rw [← hv]; congr 2; omega
              obtain ⟨J3, x3⟩ := J2.addBlk ⟨p.b, p.off + off', p.cap - off'⟩ (.cells .mut ((cs.drop off').take (len * i.size) ++ new)) hdom.2.1 (by rw [W.size]; exact hdom.2.2)
                ⟨⟨sh, by rw [W.shape]; exact hsh⟩, by rw [hlc']; simp only; omega, hcells, fun j hj => by rw [W.frozen]; have := k3 (off' + j) (by simp only at hj; omega); rw [← this]; congr 2; simp only; omega,
                  fun h => absurd rfl h, fun _ j hj => by have := k5 rfl (off' + j) (by simp only at hj; omega); rwa [← Nat.add_assoc] at this, fun h => by cases h⟩
                (fun _ j b q hj hb hq => hfree j b q p hj hb (by simp) hq hp)
              refine ⟨_, w', _, ι, hrun, J3, x2.trans x3, ?_, hkp _⟩
              have := Rv.sref (μ := μ.upd s.n ⟨p.b, p.off + off', p.cap - off'⟩) (ι := ι) (w := w') (id := s.n) (off := 0) (len := len + n) (esz := i.size) (cap := cap) (off' := 0) (p := ⟨p.b, p.off + off', p.cap - off'⟩) (by simp [Mu.upd]) (by simp only; omega) hfit (fun _ => rfl)
              exact this
          · -- it grows
            obtain ⟨oldd, hd1, hd2, hd3, hd4⟩ := hold Id hg hin
            obtain ⟨nc, hnc, hrun⟩ := append_grows (ty := ty) ht hu hd hi hl (by omega) hb0 (by unfold big at hbig; exact hbig) hzv (hd1 _ (Same.refl _)) (hnew _ hdrew)
            obtain ⟨g1, g2⟩ := grow_row hd2 hrad (Builtin.zeroCells zv.cells (nc - (len + n)))
            have hone' := one_append (one_append hd3 hone) (zeroCells_one hz4 (nc - (len + n)))
            obtain ⟨I2, x2⟩ := (J.same hdrew).newCells el _ _ g1 hone' g2
            refine ⟨_, _, _, ι, hrun, I2, xd.trans x2, ?_, hkp _⟩
            exact sref_new (grown_size (l := len) (n := n) (k := nc - (len + n)) (by rw [hd2.1, hd4]) harr (by rw [zeroCells_size, hz1, hzl]) rfl hnc) hnc
        · cases hr
      · -- appended to so far
        rename_i cs hg
        split at hr
        · rename_i hb
          cases hr
          obtain ⟨hin0, hbig, _⟩ := hb
          have hin : off + len * i.size ≤ cs.length := by omega
          have hblk := I.blk id _ p hg hp
          obtain ⟨⟨sh, hsh⟩, k1, k2, k3, k4, k5, k6⟩ := hblk
          obtain ⟨old, ho1, ho2, ho3, ho4⟩ := hold I hg hin
          obtain ⟨J, hfree⟩ := I.toRo (cs' := cs) hg hp (.inr ⟨rfl, rfl⟩)
          have hkp : ∀ q, Kept μ s (μ.upd s.n q) ((s.put id (.cells .ro cs)).new (.cells .app ((cs.drop off).take (len * i.size) ++ new))) := by
            refine fun q => ⟨by simp, fun j hj hm => ?_, fun j hj hm => Mu.upd_none (by omega) hm⟩
            rw [St.get_new, if_neg (by simp; omega), St.get_put, if_neg]
            rintro rfl
            rw [hp] at hm; cases hm
          by_cases hfit : len + n ≤ cap
          · -- in place
            have hcell : ∀ j, j < arr.toList.length → ∃ v, w.cell? ⟨p.b, (p.off + off' + len * i.size) + (0 + j), none⟩ = some v := fun j hj => by
              have hj' : j < n * i.size := by rw [← harr]; simpa using hj
              have hc0 : cap ≠ 0 := by rintro rfl; have : n = 0 := by omega
                                       subst this; simp at hj'
              have h2 : (len + n) * i.size ≤ cap * i.size := Nat.mul_le_mul_right _ hfit
              rw [Nat.add_mul] at h2
              obtain ⟨v, hv, _⟩ := k2 (off + len * i.size + j) (by omega)
              exact ⟨v, by rw [← hv, had hc0]; congr 2; omega⟩
            have hfro : ∀ j, j < arr.toList.length → w.frozen? ⟨p.b, (p.off + off' + len * i.size) + (0 + j), none⟩ = false := fun j hj => by
              have hj' : j < n * i.size := by rw [← harr]; simpa using hj
              have hc0 : cap ≠ 0 := by rintro rfl; have : n = 0 := by omega
                                       subst this; simp at hj'
              have h2 : (len + n) * i.size ≤ cap * i.size := Nat.mul_le_mul_right _ hfit
              rw [Nat.add_mul] at h2
              have := k3 (off + len * i.size + j) (by omega)
              rw [← this, had hc0]; congr 2; omega
            have hgd : ∀ j, arr.toList.getD j undef = arr.getD j undef := fun j => by simp [List.getD_eq_getElem?_getD, Array.getD_eq_getD_getElem?]
            have hone' : ∀ y ∈ arr.toList, y.oneCell' = true := fun y hy => by
              obtain ⟨j, hj, rfl⟩ := List.getElem_of_mem hy
              have hj' : j < arr.size := by simpa using hj
              have := hone j hj'
              simpa [Array.getD_eq_getD_getElem?, hj'] using this
            obtain ⟨w', hw', W⟩ := run_storeCells (P := P) p.b (p.off + off' + len * i.size) arr.toList 0 w hone' hcell hfro
            rw [Nat.add_zero] at W
            have hnio : ∀ j, j < arr.toList.length → ¬ ι p.b ((p.off + off' + len * i.size) + j) := fun j hj => by
              have hj' : j < n * i.size := by rw [← harr]; simpa using hj
              have hc0 : cap ≠ 0 := by rintro rfl; have : n = 0 := by omega
                                       subst this; simp at hj'
              have h2 : (len + n) * i.size ≤ cap * i.size := Nat.mul_le_mul_right _ hfit
              rw [Nat.add_mul] at h2
              have := k6 rfl (off + len * i.size + j) (by omega) (by omega)
              rwa [show p.off + (off + len * i.size + j) = p.off + off' + len * i.size + j from by rw [had hc0]; omega] at this
            obtain ⟨J2, x2⟩ := J.wroteFree W hdom.2.1 (fun j hj => by rw [hgd]; exact hone j (by simpa using hj)) hnio ⟨sh, hsh⟩ (fun j b q hj hb hq => hfree j b q p hj hb (by simp) hq hp)
            have hrun : AppRun P w t u ty (.slice (some ⟨p.b, p.off + off', none⟩) len cap) yv (.slice (some ⟨p.b, p.off + off', none⟩) (len + n) cap) w' :=
              append_fits ht hu hd hi hl hfit (hnew w (Same.refl w)) (fun b hb => by cases hb; rw [add_mk]; exact hw') (fun h => by cases h)
            by_cases hc0 : cap = 0
            · have hl0 : len = 0 := by omega
              have hn0 : n = 0 := by omega
              subst hc0; subst hl0; subst hn0
              have hnew0 : new = [] := by have : new.length = 0 := by rw [hnl]; simp
                                          exact List.length_eq_zero_iff.1 this
              subst hnew0
              obtain ⟨J3, x3⟩ := J2.addBlk ⟨p.b, p.off + off', 0⟩ (.cells .app ((cs.drop off).take (0 * i.size) ++ [])) hdom.2.1 (by rw [W.size]; exact hdom.2.2)
                ⟨⟨sh, by rw [W.shape]; exact hsh⟩, by simp, fun j hj => absurd hj (Nat.not_lt_zero _), fun j hj => absurd hj (Nat.not_lt_zero _), fun _ j hj => by simp at hj, (fun h => by cases h), fun _ j _ hj => absurd hj (Nat.not_lt_zero _)⟩
                (fun _ j b q hj hb hq => hfree j b q p hj hb (by simp) hq hp)
              exact ⟨_, w', _, ι, hrun, J3, x2.trans x3, .sref (off := 0) (off' := 0) (p := ⟨p.b, p.off + off', 0⟩) (by simp [Mu.upd]) (by simp) (by omega) (fun h => absurd rfl h), hkp _⟩
            · have ho' := had hc0
              subst ho'
              have hcapE : (len + n) * i.size ≤ cap * i.size := Nat.mul_le_mul_right _ hfit
              rw [Nat.add_mul] at hcapE
              have hlc' : ((cs.drop off').take (len * i.size) ++ new).length = len * i.size + n * i.size := by rw [List.length_append, ho4, hnl]
              have hcells : ∀ j, j < p.cap - off' → ∃ v, w'.cell? ⟨p.b, p.off + off' + j, none⟩ = some v ∧ v.oneCell' = true ∧ (j < ((cs.drop off').take (len * i.size) ++ new).length → Rv μ ι w' (((cs.drop off').take (len * i.size) ++ new).getD j .top) v) := by
                intro j hj
                obtain ⟨v, hv, hov, hrv⟩ := k2 (off' + j) (by omega)
                by_cases h1 : j < len * i.size
                · refine ⟨v, ?_, hov, fun _ => ?_⟩
                  · rw [W.miss _ (by simp only; omega)]; rw [← hv]; congr 2; omega
                  · rw [List.getD_eq_getElem?_getD, List.getElem?_append_left (by rw [ho4]; exact h1), ← List.getD_eq_getElem?_getD, getD_drop_take _ _ _ _ h1]
                    exact (hrv (by omega)).ext x2
                · by_cases h2 : j < len * i.size + n * i.size
                  · have hh := W.hit (j - len * i.size) (by rw [Array.length_toList, harr]; omega)
                    rw [show p.off + off' + len * i.size + (j - len * i.size) = p.off + off' + j from by omega] at hh
                    refine ⟨_, hh, by rw [hgd]; exact hone _ (by rw [harr]; omega), fun _ => ?_⟩
                    rw [List.getD_eq_getElem?_getD, List.getElem?_append_right (by rw [ho4]; omega), ← List.getD_eq_getElem?_getD, ho4, hgd]
                    exact (hra.2 _ (by rw [hnl]; omega)).ext x2
                  · refine ⟨v, ?_, hov, fun hc => absurd hc (by rw [hlc']; exact h2)⟩
                    rw [W.miss _ (by simp only [Array.length_toList, harr]; omega)]; rw [← hv]; congr 2; omega
              obtain ⟨J2', x2'⟩ := J2.addIo (fun b o => b = p.b ∧ ∃ j, j < n * i.size ∧ o = p.off + off' + len * i.size + j) (fun b o h => by rw [h.1]; exact hdom.2.1) (by
                rintro b o ⟨rfl, j, hj, rfl⟩
                exact ⟨_, W.hit j (by rw [Array.length_toList, harr]; exact hj)⟩) (by
                rintro j b q hj hb hq o ⟨he, _⟩
                exact hfree j b q p hj hb (by simp) hq hp he)
              obtain ⟨J3, x3⟩ := J2'.addBlk ⟨p.b, p.off + off', p.cap - off'⟩ (.cells .app ((cs.drop off').take (len * i.size) ++ new)) hdom.2.1 (by rw [W.size]; exact hdom.2.2)
                ⟨⟨sh, by rw [W.shape]; exact hsh⟩, by rw [hlc']; simp only; omega, fun j hj => by
                    obtain ⟨v, h1, h2, h3⟩ := hcells j hj
                    exact ⟨v, h1, h2, fun h => (h3 h).ext x2'⟩,
                  fun j hj => by rw [W.frozen]; have := k3 (off' + j) (by simp only at hj; omega); rw [← this]; congr 2; simp only; omega,
                  fun _ j hj => by
                    rw [hlc'] at hj
                    by_cases h1 : j < len * i.size
                    · refine .inl ?_
                      have := k4 (by simp) (off' + j) (by omega)
                      rwa [← Nat.add_assoc] at this
                    · exact .inr ⟨rfl, j - len * i.size, by omega, by simp only; omega⟩,
                  (fun h => by cases h),
                  fun _ j hl hj hx => by
                    rw [hlc'] at hl
                    rcases hx with hx | ⟨_, k, hk, hx⟩
                    · have := k6 rfl (off' + j) (by omega) (by simp only at hj; omega)
                      rw [← Nat.add_assoc] at this
                      exact this hx
                    · simp only at hx; omega⟩
                (fun _ j b q hj hb hq => hfree j b q p hj hb (by simp) hq hp)
              refine ⟨_, w', _, _, hrun, J3, (x2.trans x2').trans x3, ?_, hkp _⟩
              have := Rv.sref (μ := μ.upd s.n ⟨p.b, p.off + off', p.cap - off'⟩) (ι := fun b o => ι b o ∨ (b = p.b ∧ ∃ j, j < n * i.size ∧ o = p.off + off' + len * i.size + j)) (w := w') (id := s.n) (off := 0) (len := len + n) (esz := i.size) (cap := cap) (off' := 0) (p := ⟨p.b, p.off + off', p.cap - off'⟩) (by simp [Mu.upd]) (by simp only; omega) hfit (fun _ => rfl)
              exact this
          · -- it grows
            obtain ⟨oldd, hd1, hd2, hd3, hd4⟩ := hold Id hg hin
            obtain ⟨nc, hnc, hrun⟩ := append_grows (ty := ty) ht hu hd hi hl (by omega) hb0 (by unfold big at hbig; exact hbig) hzv (hd1 _ (Same.refl _)) (hnew _ hdrew)
            obtain ⟨g1, g2⟩ := grow_row hd2 hrad (Builtin.zeroCells zv.cells (nc - (len + n)))
            have hone' := one_append (one_append hd3 hone) (zeroCells_one hz4 (nc - (len + n)))
            obtain ⟨I2, x2⟩ := (J.same hdrew).newCells el _ _ g1 hone' g2
            obtain ⟨ι3, I3, x3, _⟩ := I2.recell (id := s.n) (m := .mut) (m' := .app) (cs' := (cs.drop off).take (len * i.size) ++ new) (by rw [St.get_new]; exact if_pos rfl) (p := ⟨w.drew.heap.size, 0, _⟩) (by show Mu.upd μ s.n _ s.n = _; simp [Mu.upd]; rfl) rfl (.inr ⟨rfl, rfl⟩) (by
              intro j x hj hx
              have hcell := World.cell?_alloc_new w.drew (oldd ++ arr ++ Builtin.zeroCells zv.cells (nc - (len + n))) el j
              rw [Nat.zero_add] at hx
              have hx' : (oldd ++ arr ++ Builtin.zeroCells zv.cells (nc - (len + n)))[j]? = some x := hcell.symm.trans hx
              have := (g2 j hj).ext x2
              rw [Array.getD_eq_getD_getElem?, hx', Option.getD_some] at this
              exact this)
            refine ⟨_, _, _, ι3, hrun, I3.congr rfl (fun j => ?_), (xd.trans x2).trans x3, ?_, hkp _⟩
            · show ((s.put id (.cells .ro cs)).new (.cells .app ((cs.drop off).take (len * i.size) ++ new))).get j = _
              rw [St.get_put, St.get_new, St.get_new]
              by_cases e : j = s.n
              · rw [if_pos e]; exact if_pos e
              · rw [if_neg e]
                have e' : ¬ j = (s.put id (.cells .ro cs)).n := e
                rw [if_neg e', if_neg e']
            · exact sref_new (grown_size (l := len) (n := n) (k := nc - (len + n)) (by rw [hd2.1, hd4]) harr (by rw [zeroCells_size, hz1, hzl]) rfl hnc) hnc
        · cases hr
      · cases hr
    · cases hr

end
end Go.Pv
