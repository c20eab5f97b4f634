/- A path, a byte and a truth value as arguments. -/
import Derived.Test.YthcllhhldknkmaaGreatDoorArgs
import Derived.Test.YthcllhhldknkmaaGreatDoorPvRow
set_option linter.unusedSimpArgs false
set_option linter.unusedVariables false
set_option maxRecDepth 100000
namespace Go.Proofs.YthcllhhldknkmaaGreatDoor
open Go Go.Pv
open Classical
theorem rowP : rowTy Tryz.prog 9 28 = some [.sl [.int .i64], .sl [.int .i64]] := by kernel_rfl
theorem argP {v : LV} (h : HasArg Tryz.prog 9 28 v) : ∃ st lo sl ll, v = .agg [st, lo] ∧ IsInts st sl ∧ IsInts lo ll := by
  obtain ⟨row, lvs, h1, h2, h3⟩ := h
  rw [rowP] at h1
  cases h1
  rw [Tryz.underlying28] at h3
  cases h2 with | cons a h2 => cases h2 with | cons b h2 =>
  cases h2
  obtain ⟨sl, hS⟩ := hasC_ints a
  obtain ⟨ll, hL⟩ := hasC_ints b
  exact ⟨_, _, sl, ll, h3, hS, hL⟩
end Go.Proofs.YthcllhhldknkmaaGreatDoor
