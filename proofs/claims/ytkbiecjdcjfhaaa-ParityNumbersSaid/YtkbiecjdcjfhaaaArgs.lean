/- An automaton and a lasso as arguments. -/
import Derived.Test.YtkbiecjdcjfhaaaWod
import Derived.Test.YtkbiecjdcjfhaaaValid
set_option linter.unusedSimpArgs false
set_option linter.unusedVariables false
set_option maxRecDepth 100000
namespace Go.Proofs.Ytkbiecjdcjfhaaa
open Go Go.Pv
open Classical
theorem rowB:rowTy Try.prog 9 25=some [.int .i64, .sl [.int .i64], .sl [.sl [.sl [.int .i64, .bool]]]]:=by kernel_rfl
theorem argB {v:LV} (h:HasArg Try.prog 9 25 v):∃ B sv nv,IsB v B sv nv∧inI64 B.L:=by
  obtain ⟨row,lvs,h1,h2,h3⟩:=h
  rw [rowB] at h1
  cases h1
  rw [Try.underlying25] at h3
  cases h2 with | cons a h2=>cases h2 with | cons b h2=>cases h2 with | cons c h2=>
  cases h2
  obtain ⟨L,rfl,hL⟩:=hasC_int a
  obtain ⟨st,hst⟩:=hasC_ints b
  obtain ⟨nx,hnx⟩:=hasC_next c
  exact ⟨⟨L,st,nx⟩,_,_,⟨h3,hst,hnx⟩,hL⟩
end Go.Proofs.Ytkbiecjdcjfhaaa
