/- The document's comparisons: rows of numbers, moves, automata. -/
import Derived.Test.YtbdoggiabclkdaaGreatDoorValid
import Derived.Test.YtbdoggiabclkdaaGreatDoorPvRow
set_option linter.unusedSimpArgs false
set_option linter.unusedVariables false
section
set_option linter.unusedSimpArgs false
set_option linter.unusedVariables false
namespace Go.Proofs.YtbdoggiabclkdaaGreatDoor
open Go Go.Pv
open Classical
theorem Bu.ext {A B : Bu} (h1 : A.L = B.L) (h2 : A.start = B.start) (h3 : A.next = B.next) : A = B := by
  obtain ⟨a, b, c⟩ := A
  obtain ⟨d, e, f⟩ := B
  simp only at h1 h2 h3
  rw [h1, h2, h3]
end Go.Proofs.YtbdoggiabclkdaaGreatDoor
end
section
set_option linter.unusedSimpArgs false
set_option linter.unusedVariables false
set_option maxRecDepth 100000
namespace Go.Proofs.YtbdoggiabclkdaaGreatDoor
open Go Go.Pv
open Classical
theorem rowB : rowTy Tryz.prog 9 25 = some [.int .i64, .sl [.int .i64], .sl [.sl [.sl [.int .i64, .bool]]]] := by kernel_rfl
theorem argB {v : LV} (h : HasArg Tryz.prog 9 25 v) : ∃ B sv nv, IsB v B sv nv ∧ inI64 B.L := by
  obtain ⟨row, lvs, h1, h2, h3⟩ := h
  rw [rowB] at h1
  cases h1
  rw [Tryz.underlying25] at h3
  cases h2 with | cons a h2 => cases h2 with | cons b h2 => cases h2 with | cons c h2 =>
  cases h2
  obtain ⟨L, rfl, hL⟩ := hasC_int a
  obtain ⟨st, hst⟩ := hasC_ints b
  obtain ⟨nx, hnx⟩ := hasC_next c
  exact ⟨⟨L, st, nx⟩, _, _, ⟨h3, hst, hnx⟩, hL⟩
theorem rowI : rowTy Tryz.prog 9 22 = some [.sl [.int .i64]] := by kernel_rfl
theorem argI {v : LV} (h : HasArg Tryz.prog 9 22 v) : ∃ l, IsInts v l := by
  obtain ⟨row, lvs, h1, h2, h3⟩ := h
  rw [rowI] at h1
  cases h1
  rw [Tryz.underlying22] at h3
  cases h2 with | cons a h2 =>
  cases h2
  simp only [List.cons.injEq, and_true] at h3
  subst h3
  exact hasC_ints a
end Go.Proofs.YtbdoggiabclkdaaGreatDoor
end
