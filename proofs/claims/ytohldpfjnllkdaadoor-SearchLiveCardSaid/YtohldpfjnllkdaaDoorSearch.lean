/- accept's search. -/
import Derived.Test.YtohldpfjnllkdaaDoorSmall
set_option linter.unusedSimpArgs false
set_option linter.unusedVariables false
namespace Go.Proofs.YtohldpfjnllkdaaDoor
open Go Go.Pv Go.Aut Go.Bfs
open Classical
structure IsPls (v : LV) (ps : List Pl) : Prop where
  sl : Sl v (pcells ps) ps.length
  len : ps.length ≤ 1000000
structure FO (s : St) (M : Nat) (pv bv : LV) (acc : Ac Pl) : Prop where
  m1 : M < s.n
  gM : s.get M = some (.map (pent (acc.map (·.1)) 0))
  sp : SkC s pv 2 (pcells (acc.map (·.1))) acc.length
  sb : SkC s bv 1 (ints (acc.map (·.2))) acc.length
theorem take_snoc {α : Type} {l : List α} {i : Nat} {x : α} (h : l[i]? = some x) : l.take (i + 1) = l.take i ++ [x] := by
  rw [List.take_add_one, h]; rfl
end Go.Proofs.YtohldpfjnllkdaaDoor
