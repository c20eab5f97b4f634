/- What the arguments of a law are. -/
import Derived.Test.YtmfpcofncfhklaaD
import Derived.Test.YtmfpcofncfhklaaPvQ
set_option linter.unusedSimpArgs false
set_option linter.unusedVariables false
set_option maxRecDepth 100000
namespace Go.Proofs.Ytmfpcofncfhklaa
open Go Go.Pv
open Classical

theorem row32 : rowTy Try.prog 9 32 = some [.int .i64, .int .i64, .sl [.sl [.int .i64]], .sl [.sl [.int .i64]]] := by kernel_rfl
theorem row27 : rowTy Try.prog 9 27 = some [.sl [.int .i64], .sl [.int .i64]] := by kernel_rfl
theorem row5 : rowTy Try.prog 9 5 = some [.int .u8] := by kernel_rfl
theorem und32 : ∃ fs, Try.prog.underlying 32 = some (.struct fs) := ⟨_, Try.underlying32⟩
theorem und27 : ∃ fs, Try.prog.underlying 27 = some (.struct fs) := ⟨_, Try.underlying27⟩

theorem arg32 {v : LV} (h : HasArg Try.prog 9 32 v) : ∃ L S nx pr N R vN vR, v = .agg [.int .i64 L, .int .i64 S, nx, pr] ∧ IsRows nx N vN ∧ IsRows pr R vR := by
  obtain ⟨row, lvs, h1, h2, h3⟩ := h
  rw [row32] at h1
  cases h1
  obtain ⟨fs, hu⟩ := und32
  rw [hu] at h3
  cases h2 with | cons a h2 => cases h2 with | cons b h2 => cases h2 with | cons c h2 => cases h2 with | cons d h2 =>
  cases h2
  obtain ⟨L, rfl, _⟩ := hasC_int a
  obtain ⟨S, rfl, _⟩ := hasC_int b
  obtain ⟨N, vN, hN⟩ := hasC_rows c
  obtain ⟨R, vR, hR⟩ := hasC_rows d
  exact ⟨L, S, _, _, N, R, vN, vR, h3, hN, hR⟩
theorem arg27 {v : LV} (h : HasArg Try.prog 9 27 v) : ∃ st lo sl ll, v = .agg [st, lo] ∧ IsInts st sl ∧ IsInts lo ll := by
  obtain ⟨row, lvs, h1, h2, h3⟩ := h
  rw [row27] at h1
  cases h1
  obtain ⟨fs, hu⟩ := und27
  rw [hu] at h3
  cases h2 with | cons a h2 => cases h2 with | cons b h2 =>
  cases h2
  obtain ⟨sl, hS⟩ := hasC_ints a
  obtain ⟨ll, hL⟩ := hasC_ints b
  exact ⟨_, _, sl, ll, h3, hS, hL⟩
theorem arg5 {v : LV} (h : HasArg Try.prog 9 5 v) : ∃ m : Int, v = .int .u8 m ∧ 0 ≤ m ∧ m ≤ 255 := by
  obtain ⟨row, lvs, h1, h2, h3⟩ := h
  rw [row5] at h1
  cases h1
  rw [Try.underlying5] at h3
  subst h3
  cases h2 with | cons a h2 => cases a with | int hw => exact ⟨_, rfl, by simpa [Lit.wf, IntKind.min, IntKind.max, IntKind.signed, IntKind.bits] using hw⟩

end Go.Proofs.Ytmfpcofncfhklaa
