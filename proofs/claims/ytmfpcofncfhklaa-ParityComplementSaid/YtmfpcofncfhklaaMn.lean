/- The least of a list whose elements are all turned alike. -/
import Derived.Test.YtmfpcofncfhklaaH
set_option linter.unusedSimpArgs false
set_option linter.unusedVariables false
namespace Go.Proofs.Ytmfpcofncfhklaa
open Go Go.Pv
open Classical

theorem foldl_min_map {g : Int → Int} (hg : ∀ a b, min (g a) (g b) = g (min a b)) : ∀ (l : List Int) (a : Int), (l.map g).foldl min (g a) = g (l.foldl min a) := by
  intro l
  induction l with
  | nil => intro a; rfl
  | cons b l ih => intro a; simp only [List.map_cons, List.foldl_cons, hg]; exact ih _
theorem mn_map {g : Int → Int} (hg : ∀ a b, min (g a) (g b) = g (min a b)) {l : List Int} (hl : 0 < l.length) : mn (l.map g) = g (mn l) := by
  match l, hl with
  | a :: l, _ => simpa [mn] using foldl_min_map hg l a
theorem mn_nonneg : ∀ {l : List Int}, (∀ x ∈ l, 0 ≤ x) → 0 ≤ mn l := by
  intro l h
  cases l with
  | nil => simp [mn]
  | cons a l =>
    have key : ∀ (l : List Int) (a : Int), 0 ≤ a → (∀ x ∈ l, 0 ≤ x) → 0 ≤ l.foldl min a := by
      intro l
      induction l with
      | nil => intro a h _; exact h
      | cons b l ih => intro a ha hl; exact ih _ (by have := hl b (by simp); omega) (fun x hx => hl x (by simp [hx]))
    simpa [mn] using key l a (h a (by simp)) (fun x hx => h x (by simp [hx]))

end Go.Proofs.Ytmfpcofncfhklaa
