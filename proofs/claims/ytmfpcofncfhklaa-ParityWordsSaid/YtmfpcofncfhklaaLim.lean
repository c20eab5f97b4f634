/- Which priority is the least that comes again and again: the plain theory of words. -/
import Derived.Test.YtmfpcofncfhklaaH
set_option linter.unusedSimpArgs false
set_option linter.unusedVariables false
namespace Go.Proofs.Ytmfpcofncfhklaa
open Go Go.Pv
open Classical

def IsLim (m : Int) (r : Nat → Int) : Prop := (∀ T, ∃ i, T ≤ i ∧ r i = m) ∧ ∃ T, ∀ i, T ≤ i → m ≤ r i
theorem IsLim.unique {m m' : Int} {r : Nat → Int} (h : IsLim m r) (k : IsLim m' r) : m = m' := by
  obtain ⟨h1, T, h2⟩ := h
  obtain ⟨k1, U, k2⟩ := k
  obtain ⟨i, hi, e⟩ := h1 U
  obtain ⟨j, hj, f⟩ := k1 T
  have a := k2 i hi
  have b := h2 j hj
  omega
theorem IsLim.shift {m : Int} {r : Nat → Int} (k : Nat) (h : IsLim m fun i => r (i + k)) : IsLim m r := by
  obtain ⟨h1, T, h2⟩ := h
  refine ⟨fun U => ?_, T + k, fun i hi => ?_⟩
  · obtain ⟨i, hi, e⟩ := h1 U
    exact ⟨i + k, by omega, e⟩
  · have := h2 (i - k) (by omega)
    simp only [Nat.sub_add_cancel (show k ≤ i by omega)] at this
    exact this
theorem IsLim.unshift {m : Int} {r : Nat → Int} (k : Nat) (h : IsLim m r) : IsLim m fun i => r (i + k) := by
  obtain ⟨h1, T, h2⟩ := h
  refine ⟨fun U => ?_, T, fun i hi => h2 _ (by omega)⟩
  obtain ⟨i, hi, e⟩ := h1 (U + k)
  exact ⟨i - k, by omega, by simp only [Nat.sub_add_cancel (show k ≤ i by omega)]; exact e⟩

/-- The letters of a lasso. -/
def lett (S L : List Int) (i : Nat) : Int := if i < S.length then S.getD i 0 else L.getD ((i - S.length) % L.length) 0
/-- The states on a word. -/
def stAt (N : List (List Int)) (w : Nat → Int) (q : Nat) : Nat → Nat
  | 0 => q
  | i + 1 => stp N (stAt N w q i) (w i)
def prAt (N R : List (List Int)) (w : Nat → Int) (q i : Nat) : Int := (R.getD (stAt N w q i) []).getD (w i).toNat 0

theorem stAt_add (N : List (List Int)) (w : Nat → Int) (q i : Nat) : ∀ k, stAt N w q (i + k) = stAt N (fun j => w (i + j)) (stAt N w q i) k
  | 0 => rfl
  | k + 1 => by rw [← Nat.add_assoc]; simp only [stAt, stAt_add N w q i k]
theorem prAt_add (N R : List (List Int)) (w : Nat → Int) (q i k : Nat) : prAt N R w q (i + k) = prAt N R (fun j => w (i + j)) (stAt N w q i) k := by
  simp only [prAt, stAt_add]
theorem stAt_congr (N : List (List Int)) {w w' : Nat → Int} (q : Nat) : ∀ n, (∀ i, i < n → w i = w' i) → stAt N w q n = stAt N w' q n
  | 0, _ => rfl
  | n + 1, h => by simp only [stAt]; rw [stAt_congr N q n (fun i hi => h i (by omega)), h n (by omega)]

theorem runQ_stAt (N : List (List Int)) : ∀ (l : List Int) (q : Nat) (w : Nat → Int), (∀ i, i < l.length → w i = l.getD i 0) → runQ N l q = stAt N w q l.length := by
  intro l
  induction l with
  | nil => intro q w _; rfl
  | cons a l ih =>
    intro q w h
    have h0 : w 0 = a := by simpa using h 0 (by simp)
    have := ih (stp N q a) (fun i => w (i + 1)) (fun i hi => by simpa using h (i + 1) (by simpa using hi))
    rw [runQ, this, List.length_cons, Nat.add_comm l.length 1, stAt_add]
    simp only [stAt, h0]
    exact stAt_congr N _ _ fun i _ => by rw [Nat.add_comm]

/-- The least on the way. -/
theorem minR_prAt (N R : List (List Int)) : ∀ (l : List Int) (q : Nat) (m : Int) (w : Nat → Int), (∀ i, i < l.length → w i = l.getD i 0) →
    minR N R l q m ≤ m ∧ (∀ i, i < l.length → minR N R l q m ≤ prAt N R w q i) ∧ (minR N R l q m = m ∨ ∃ i, i < l.length ∧ minR N R l q m = prAt N R w q i) := by
  intro l
  induction l with
  | nil => intro q m w _; exact ⟨Int.le_refl _, fun i hi => absurd hi (Nat.not_lt_zero _), .inl rfl⟩
  | cons a l ih =>
    intro q m w h
    have h0 : w 0 = a := by simpa using h 0 (by simp)
    obtain ⟨h1, h2, h3⟩ := ih (stp N q a) (min m ((R.getD q []).getD a.toNat 0)) (fun i => w (1 + i)) (fun i hi => by rw [Nat.add_comm]; simpa using h (i + 1) (by simpa using hi))
    have hp : ∀ i, prAt N R w q (1 + i) = prAt N R (fun j => w (1 + j)) (stp N q a) i := fun i => by rw [prAt_add]; simp only [stAt, h0]
    have hp0 : prAt N R w q 0 = (R.getD q []).getD a.toNat 0 := by simp only [prAt, stAt, h0]
    simp only [minR]
    refine ⟨by omega, fun i hi => ?_, ?_⟩
    · cases i with
      | zero => rw [hp0]; omega
      | succ i => rw [Nat.add_comm i 1, hp]; exact h2 i (by simpa using hi)
    · rcases h3 with h3 | ⟨i, hi, h3⟩
      · rw [h3]
        by_cases hle : m ≤ (R.getD q []).getD a.toNat 0
        · exact .inl (by omega)
        · exact .inr ⟨0, by simp, by rw [hp0]; omega⟩
      · exact .inr ⟨1 + i, by simp; omega, by rw [hp]; exact h3⟩
end Go.Proofs.Ytmfpcofncfhklaa
