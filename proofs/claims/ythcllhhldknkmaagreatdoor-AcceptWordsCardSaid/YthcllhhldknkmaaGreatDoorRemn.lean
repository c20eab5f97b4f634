/- Remainders of numbers that are not negative: plain. -/
import Derived.Test.YthcllhhldknkmaaGreatDoorPvQ
set_option linter.unusedSimpArgs false
set_option linter.unusedVariables false
namespace Go.Proofs.YthcllhhldknkmaaGreatDoor
open Go Go.Pv
open Classical
theorem rem_nat (n : Nat) {m : Nat} (h : 0 < m) : binLV .rem (.int .i64 (n : Int)) (.int .i64 (m : Int)) = some (.int .i64 ((n % m : Nat) : Int)) := by
  have : ¬ (m : Int) = 0 := by omega
  simp [binLV, intBin, this]
  exact ⟨by omega, Int.tmod_eq_emod_of_nonneg (by omega)⟩
end Go.Proofs.YthcllhhldknkmaaGreatDoor
