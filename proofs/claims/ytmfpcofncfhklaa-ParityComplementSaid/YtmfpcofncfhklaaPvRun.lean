/- The machine's small questions, answered. -/
import Derived.Test.YtmfpcofncfhklaaPvComp
import Derived.Laws.Entries
namespace Go.Pv
open Go Go.RowKit

section
variable {P : Program} {w : World} {μ : Mu} {ι : Io}

theorem ru {t : TypeId} {d : TypeDesc} (h : P.underlying t = some d) : (underlying t).run P w = .ok d w := run_underlying h w
theorem rti {t : TypeId} {i : TypeInfo} (h : P.info? t = some i) : (typeInfo t).run P w = .ok i w := by simp [typeInfo, h]
theorem rsz {t : TypeId} {n : Nat} (h : szOf P t = some n) : (sizeOf t).run P w = .ok n w := by
  unfold szOf at h
  cases hi : P.info? t with
  | none => simp [hi] at h
  | some i => simp [hi] at h; simp [sizeOf, rti hi, h]
theorem rz {t : TypeId} {i : TypeInfo} {v : Value} (h : P.info? t = some i) (hz : i.zero = some v) : (zeroValue t).run P w = .ok v w := by simp [zeroValue, rti h, hz]

theorem aggOf_none {t : TypeId} (h : aggOf P t = some none) : (isAgg t).run P w = .ok false w := by
  unfold aggOf at h
  cases hu : P.underlying t with
  | none => simp [hu] at h
  | some d =>
    rw [hu] at h
    cases d <;> first
      | (simp [isAgg, ru hu]; done)
      | (simp only at h; cases hs : szOf P t <;> simp [hs] at h)

theorem aggOf_some {t : TypeId} {n : Nat} (h : aggOf P t = some (some n)) : (isAgg t).run P w = .ok true w ∧ szOf P t = some n := by
  unfold aggOf at h
  cases hu : P.underlying t with
  | none => simp [hu] at h
  | some d =>
    rw [hu] at h
    cases d <;> first
      | (simp at h; done)
      | (simp only at h; refine ⟨by simp [isAgg, ru hu], ?_⟩; cases hs : szOf P t <;> simp_all)

theorem rv_scalarC {v : Value} {x : LV} (h : scalarC v = some x) : Rv μ ι w x v := by
  unfold scalarC at h
  split at h <;> first | (cases h; constructor; done) | (cases h; done) | skip

theorem mapM_get {α β : Type} {f : α → Option β} : ∀ {l : List α} {r : List β}, l.mapM f = some r → r.length = l.length ∧ ∀ i (h : i < l.length), ∃ y, r[i]? = some y ∧ f l[i] = some y := by
  intro l
  induction l with
  | nil => intro r h; simp at h; subst h; exact ⟨rfl, fun i h => absurd h (Nat.not_lt_zero _)⟩
  | cons a l ih =>
    intro r h
    rw [List.mapM_cons] at h
    cases ha : f a with
    | none => simp [ha] at h
    | some b =>
      cases hl : l.mapM f with
      | none => simp [ha, hl] at h
      | some bs =>
        simp [ha, hl] at h
        subst h
        obtain ⟨h1, h2⟩ := ih hl
        refine ⟨by simp [h1], fun i hi => ?_⟩
        cases i with
        | zero => exact ⟨b, by simp, by simpa using ha⟩
        | succ i => obtain ⟨y, hy, hf⟩ := h2 i (by simpa using hi); exact ⟨y, by simpa using hy, by simpa using hf⟩

theorem getD_of_get? {α : Type} {l : List α} {i : Nat} {y d : α} (h : l[i]? = some y) : l.getD i d = y := by simp [List.getD_eq_getElem?_getD, h]

theorem rv_constC {v : Value} {x : LV} (h : constC v = some x) : Rv μ ι w x v := by
  unfold constC at h
  split at h
  · rename_i cs
    cases hm : cs.toList.mapM scalarC with
    | none => simp [hm] at h
    | some l =>
      simp [hm] at h
      subst h
      obtain ⟨h1, h2⟩ := mapM_get hm
      refine .agg (by simp [h1]) (fun i hi => ?_)
      obtain ⟨y, hy, hs⟩ := h2 i (by rw [← h1]; exact hi)
      rw [getD_of_get? hy]
      have hi' : i < cs.size := by simpa [h1] using hi
      have : cs.getD i undef = cs.toList[i]'(by simpa using hi') := by simp [Array.getD_eq_getD_getElem?, hi']
      rw [this]
      exact rv_scalarC hs
  · split at h
    · rename_i vs h0
      cases h
      have : vs = #[] := by apply Array.ext'; exact List.length_eq_zero_iff.1 h0
      subst this
      exact .tup rfl (fun i hi => absurd hi (Nat.not_lt_zero _))
    · cases h
  · exact rv_scalarC h

theorem oneCell_rel {v : LV} {x : Value} (hv : Rv μ ι w v x) (h : isCell v = true) : x.oneCell' = true := by
  cases hv <;> first | rfl | (simp [isCell] at h; done)

/-- What 'cells?' says of the machine's 'cells'. -/
theorem cells_rel {v : LV} {x : Value} {cs : List LV} (hv : Rv μ ι w v x) (h : cells? v = some cs) :
    x.cells.size = cs.length ∧ (∀ i, i < cs.length → Rv μ ι w (cs.getD i .top) (x.cells.getD i undef)) ∧ cs.all isCell = true := by
  cases hv with
  | agg hl hr =>
    simp only [cells?] at h
    split at h
    · rename_i ha; cases h; exact ⟨hl, hr, ha⟩
    · cases h
  | top => cases h
  | tup => cases h
  | _ =>
    cases h
    refine ⟨rfl, fun i hi => ?_, rfl⟩
    obtain rfl : i = 0 := by simpa using hi
    first
      | exact .bool _ | exact .int _ _ | exact .str _ | exact .nilp | exact .nils | exact .nilf | exact .nili | exact .nilm
      | (constructor <;> assumption)

theorem cells_one {v : LV} {x : Value} {cs : List LV} (hv : Rv μ ι w v x) (h : cells? v = some cs) : ∀ y ∈ x.cells.toList, y.oneCell' = true := by
  obtain ⟨h1, h2, h3⟩ := cells_rel hv h
  intro y hy
  obtain ⟨i, hi, rfl⟩ := List.getElem_of_mem hy
  have hi' : i < cs.length := by rw [← h1]; simpa using hi
  have := oneCell_rel (h2 i hi') (by
    rw [List.all_eq_true] at h3
    refine h3 _ ?_
    simp [List.getD_eq_getElem?_getD, hi'])
  have hi2 : i < x.cells.size := by simpa using hi
  simpa [Array.getD_eq_getD_getElem?, hi2] using this
end
end Go.Pv
