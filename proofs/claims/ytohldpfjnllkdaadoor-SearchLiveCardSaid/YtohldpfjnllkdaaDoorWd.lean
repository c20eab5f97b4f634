/- What a found turn says of the word: plain. -/
import Derived.Test.YtohldpfjnllkdaaDoorTurn
import Derived.Test.YtohldpfjnllkdaaDoorWoa
set_option linter.unusedSimpArgs false
set_option linter.unusedVariables false
namespace Go.Proofs.YtohldpfjnllkdaaDoor
open Go Go.Pv Go.Aut Go.Bfs
open Classical
def firsts (B : Bu) : List Pl := B.start.map fun q => (0, q.toNat)
theorem start_nat {B : Bu} (hok : Vb B) {z : Int} (hz : z ∈ B.start) : (z.toNat : Int) = z ∧ z.toNat < B.next.length := by
  obtain ⟨i, hi⟩ := List.mem_iff_getElem?.1 hz
  obtain ⟨h1, h2⟩ := List.getElem?_eq_some_iff.1 hi
  have := hok.2.2.2.1 i h1
  have hg : B.start.getD i 0 = z := by rw [List.getD_eq_getElem?_getD, hi]; rfl
  rw [hg] at this
  omega
theorem bmv_lt {B : Bu} (hok : Vb B) (q a : Nat) (hq : q < B.next.length) : ∀ m ∈ bmv B q a, m.1 < B.next.length := by
  intro m hm
  simp only [bmv] at hm
  obtain ⟨m', hm', rfl⟩ := List.mem_map.1 hm
  have hrow := hok.2.2.2.2 q hq
  obtain ⟨k, hk⟩ := List.mem_iff_getElem?.1 hm'
  obtain ⟨hk1, hk2⟩ := List.getElem?_eq_some_iff.1 hk
  have ha : a < (B.next.getD q []).length := by
    apply Classical.byContradiction
    intro hn
    have : (B.next.getD q []).getD a [] = [] := by rw [List.getD_eq_getElem?_getD, List.getElem?_eq_none (by omega)]; rfl
    rw [this] at hk1
    exact absurd hk1 (Nat.not_lt_zero k)
  have := hrow.2 a ha k hk1
  have hgd : ((B.next.getD q []).getD a []).getD k (0, false) = m' := by
    rw [List.getD_eq_getElem?_getD, hk]; rfl
  rw [hgd] at this
  show m'.1.toNat < _
  omega
end Go.Proofs.YtohldpfjnllkdaaDoor
