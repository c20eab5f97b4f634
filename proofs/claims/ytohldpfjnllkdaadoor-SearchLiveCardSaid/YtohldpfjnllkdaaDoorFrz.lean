/- A list of lists that were just made, taken by value. -/
import Derived.Test.YtohldpfjnllkdaaDoorStarts
set_option linter.unusedSimpArgs false
set_option linter.unusedVariables false
namespace Go.Proofs.YtohldpfjnllkdaaDoor
open Go Go.Pv Go.Aut Go.Bfs
open Classical
theorem nints_zints (l : List Nat) : nints l = ints (zints l) := by simp [nints, ints, zints]
theorem nints_closed (l : List Nat) : LV.closed.closedAll (nints l) = true := by rw [nints_zints]; exact ints_closed _
def RowH (s : St) (v : LV) (l : List Nat) : Prop := (v = .nils ∧ l = []) ∨ ∃ j m, v = .sref j 0 l.length 1 ∧ s.get j = some (.cells m (nints l))
theorem zints_is {l : List Nat} (hl : l.length ≤ 1000000) (hr : ∀ x ∈ l, x ≤ 1000000) : ∀ v, Sl v (nints l) l.length → IsInts v (zints l) := fun v h => by
  have hmx : maxLen = 9223372036854775807 := by decide
  refine ⟨by rw [← nints_zints]; simpa using h, by simp; omega, fun x hx => ?_⟩
  obtain ⟨i, hi, rfl⟩ := List.mem_map.1 hx
  have := hr i hi
  constructor <;> omega
theorem frz_rowH {s : St} {v : LV} {l : List Nat} (n : Nat) (h : RowH s v l) (hl : l.length ≤ 1000000) (hr : ∀ x ∈ l, x ≤ 1000000) : ∃ v' s', frz (n + 2) v s = some (v', s') ∧ IsInts v' (zints l) ∧ s'.n = s.n ∧ (∀ id, ¬ uses v id → s'.get id = s.get id) ∧ ∀ id, uses v id → ∃ m, s'.get id = some (.cells m (nints l)) := by
  rcases h with ⟨rfl, rfl⟩ | ⟨j, m, rfl, hg⟩
  · exact ⟨.nils, s, frz_closed rfl, zints_is hl hr _ .nil, rfl, fun _ _ => rfl, fun id hu => absurd hu (uses_nils id)⟩
  · refine ⟨.simm (nints l) l.length, s.put j (.cells (if m = .mut then .app else m) (nints l)), ?_, zints_is hl hr _ (.simm _ _), rfl, fun id hu => by rw [St.get_put, if_neg fun e => hu (uses_sref.2 e)], fun id hu => by
      obtain rfl := uses_sref.1 hu
      exact ⟨_, by rw [St.get_put, if_pos rfl]⟩⟩
    unfold frz
    simp only [LV.closed, Bool.false_eq_true, if_false, hg, Nat.zero_add, Nat.mul_one, nints_length, Nat.le_refl, if_true, frzAll_closed (nints_closed l), Option.bind_eq_bind, Option.bind_some, List.drop_zero]
    rw [List.take_of_length_le (by simp)]
theorem frz_rowsH (n : Nat) : ∀ (rv : List LV) (rows : List (List Nat)) (s : St), rv.length = rows.length → (∀ i, i < rows.length → RowH s (rv.getD i .top) (rows.getD i []) ∧ (rows.getD i []).length ≤ 1000000 ∧ ∀ x ∈ rows.getD i [], x ≤ 1000000) →
    (∀ i k, i < rows.length → k < rows.length → i ≠ k → ∀ id, uses (rv.getD i .top) id → ¬ uses (rv.getD k .top) id) →
    ∃ vs s', frz.frzAll (frz (n + 2)) rv s = some (vs, s') ∧ vs.length = rows.length ∧ (∀ i, i < rows.length → IsInts (vs.getD i .top) (zints (rows.getD i []))) ∧ s'.n = s.n ∧ ∀ id, (∀ i, i < rows.length → ¬ uses (rv.getD i .top) id) → s'.get id = s.get id := by
  intro rv
  induction rv with
  | nil =>
    intro rows s hl _ _
    have : rows = [] := List.length_eq_zero_iff.1 hl.symm
    subst this
    exact ⟨[], s, rfl, rfl, fun i hi => absurd hi (Nat.not_lt_zero _), rfl, fun _ _ => rfl⟩
  | cons v rv ih =>
    intro rows s hl h hd
    match rows, hl with
    | r :: rows, hl =>
      obtain ⟨h0, h1, h2⟩ := h 0 (by simp)
      simp only [List.getD_cons_zero] at h0 h1 h2
      obtain ⟨v', s1, a1, a2, a3, a4, a5⟩ := frz_rowH n h0 h1 h2
      obtain ⟨vs, s2, b1, b2, b3, b4, b5⟩ := ih rows s1 (by simpa using hl) (fun i hi => by
        obtain ⟨c0, c1, c2⟩ := h (i + 1) (by simpa using hi)
        simp only [List.getD_cons_succ] at c0 c1 c2
        refine ⟨?_, c1, c2⟩
        rcases c0 with c0 | ⟨j, m, c0, c3⟩
        · exact .inl c0
        · exact .inr ⟨j, m, c0, by rw [a4 j fun hu => hd 0 (i + 1) (by simp) (by simpa using hi) (by omega) j (by simpa using hu) (by simp only [List.getD_cons_succ]; exact ⟨0, _, 1, c0⟩)]; exact c3⟩) (fun i k hi hk hne id hu => by
        have := hd (i + 1) (k + 1) (by simpa using hi) (by simpa using hk) (by omega) id (by simpa using hu)
        simpa using this)
      refine ⟨v' :: vs, s2, by simp [frz.frzAll, a1, b1], by simp [b2], fun i hi => ?_, by rw [b4, a3], fun id hid => ?_⟩
      · cases i with
        | zero => simpa using a2
        | succ i => simpa using b3 i (by simpa using hi)
      · rw [b5 id fun i hi => by simpa using hid (i + 1) (by simpa using hi), a4 id (by simpa using hid 0 (by simp))]
end Go.Proofs.YtohldpfjnllkdaaDoor
