/- The word of a track, plainly. -/
import Derived.Test.YtohldpfjnllkdaaDoorConcat
set_option linter.unusedSimpArgs false
set_option linter.unusedVariables false
namespace Go.Proofs.YtohldpfjnllkdaaDoor
open Go Go.Pv Go.Aut
open Classical
theorem pos_eq {B : Bu} {ls : List Nat} {n m : Nat} (hl : ls.length = n + m) (hm : 0 < m) : ∀ i, (tkOf B ls n).pos i = if i < n then i else n + (i - n) % m := by
  intro i
  induction i with
  | zero =>
    show 0 = _
    by_cases h : 0 < n
    · rw [if_pos h]
    · have : n = 0 := by omega
      subst this; simp
  | succ i ih =>
    show (if (tkOf B ls n).pos i + 1 = ls.length then n else (tkOf B ls n).pos i + 1) = _
    rw [ih, hl]
    by_cases h1 : i < n
    · rw [if_pos h1, if_neg (by omega)]
      by_cases h2 : i + 1 < n
      · rw [if_pos h2]
      · rw [if_neg h2]
        have : i + 1 - n = 0 := by omega
        rw [this, Nat.zero_mod]; omega
    · rw [if_neg h1, if_neg (by omega : ¬ i + 1 < n)]
      have hd : i + 1 - n = (i - n) + 1 := by omega
      rw [hd]
      generalize i - n = d
      have h3 := Nat.mod_lt d hm
      have h4 : (d + 1) % m = (d % m + 1) % m := by
        have h5 : d + 1 = m * (d / m) + (d % m + 1) := by have := Nat.div_add_mod d m; omega
        rw [h5, Nat.mul_add_mod]
      rw [h4]
      clear h4
      by_cases h6 : d % m + 1 = m
      · rw [if_pos (by omega), h6, Nat.mod_self]; omega
      · have h7 : (d % m + 1) % m = d % m + 1 := Nat.mod_eq_of_lt (by omega)
        rw [if_neg (by omega), h7]; omega
theorem word_lett {B : Bu} {S L : List Int} (hL : 1 ≤ L.length) (h0 : ∀ x ∈ S ++ L, 0 ≤ x) (i : Nat) : ((tkOf B ((S ++ L).map Int.toNat) S.length).word i : Int) = lett S L i := by
  have hp := pos_eq (B := B) (ls := (S ++ L).map Int.toNat) (n := S.length) (m := L.length) (by simp) (by omega) i
  have hg : ∀ j, j < (S ++ L).length → ((((S ++ L).map Int.toNat).getD j 0 : Nat) : Int) = (S ++ L).getD j 0 := by
    intro j hj
    rw [List.getD_eq_getElem?_getD, List.getD_eq_getElem?_getD, List.getElem?_map, List.getElem?_eq_getElem hj]
    have := h0 _ (List.getElem_mem hj)
    simp only [Option.map_some, Option.getD_some]
    omega
  show ((((S ++ L).map Int.toNat).getD ((tkOf B ((S ++ L).map Int.toNat) S.length).pos i) 0 : Nat) : Int) = _
  rw [hp]
  unfold lett
  by_cases h : i < S.length
  · rw [if_pos h, if_pos h, hg _ (by simp; omega)]
    simp [List.getD_eq_getElem?_getD, List.getElem?_append_left h]
  · have h3 := Nat.mod_lt (i - S.length) (by omega : L.length > 0)
    rw [if_neg h, if_neg h, hg _ (by simp; omega)]
    simp [List.getD_eq_getElem?_getD, List.getElem?_append_right]
end Go.Proofs.YtohldpfjnllkdaaDoor
