/- Acceptance from one start, and from a state after the first letter: plain. -/
import Derived.Test.YthcllhhldknkmaaGreatDoorNewtrack
import Derived.Test.YthcllhhldknkmaaGreatDoorSuf
import Derived.Test.YthcllhhldknkmaaGreatDoorSufp
set_option linter.unusedSimpArgs false
set_option linter.unusedVariables false
namespace Go.Proofs.YthcllhhldknkmaaGreatDoor
open Go Go.Pv Go.Aut
open Classical
theorem getD_in {α : Type} {l : List α} {k : Nat} {d : α} (h : k < l.length) : l.getD k d ∈ l := by
  rw [List.getD_eq_getElem?_getD, List.getElem?_eq_getElem h]
  exact List.getElem_mem h
def mvs (B : Bu) (p a : Int) : Moves := (B.next.getD p.toNat []).getD a.toNat []
end Go.Proofs.YthcllhhldknkmaaGreatDoor
