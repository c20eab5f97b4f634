/- An automaton and a lasso as arguments. -/
import Derived.Test.YtgobbogomchnhaaGreatDoorWod
import Derived.Test.YtgobbogomchnhaaGreatDoorValid
import Derived.Test.YtgobbogomchnhaaGreatDoorPvRow
set_option linter.unusedSimpArgs false
set_option linter.unusedVariables false
section
set_option linter.unusedSimpArgs false
set_option linter.unusedVariables false
set_option maxRecDepth 100000
namespace Go.Proofs.YtgobbogomchnhaaGreatDoor
open Go Go.Pv
open Classical
theorem rowB:rowTy Tryz.prog 9 25=some [.int .i64, .sl [.int .i64], .sl [.sl [.sl [.int .i64, .bool]]]]:=by kernel_rfl
theorem rowL:rowTy Tryz.prog 9 36=some [.sl [.int .i64], .sl [.int .i64]]:=by kernel_rfl
theorem argB {v:LV} (h:HasArg Tryz.prog 9 25 v):∃ B sv nv,IsB v B sv nv∧inI64 B.L:=by
 obtain ⟨row,lvs,h1,h2,h3⟩:=h
 rw [rowB] at h1
 cases h1
 rw [Tryz.underlying25] at h3
 cases h2 with | cons a h2=>cases h2 with | cons b h2=>cases h2 with | cons c h2=>
 cases h2
 obtain ⟨L,rfl,hL⟩:=hasC_int a
 obtain ⟨st,hst⟩:=hasC_ints b
 obtain ⟨nx,hnx⟩:=hasC_next c
 exact ⟨⟨L,st,nx⟩,_,_,⟨h3,hst,hnx⟩,hL⟩
theorem argL {v:LV} (h:HasArg Tryz.prog 9 36 v):∃ st lo sl ll,v = .agg [st,lo]∧IsInts st sl∧IsInts lo ll:=by
 obtain ⟨row,lvs,h1,h2,h3⟩:=h
 rw [rowL] at h1
 cases h1
 rw [Tryz.underlying36] at h3
 cases h2 with | cons a h2=>cases h2 with | cons b h2=>
 cases h2
 obtain ⟨sl,hS⟩:=hasC_ints a
 obtain ⟨ll,hL⟩:=hasC_ints b
 exact ⟨_,_,sl,ll,h3,hS,hL⟩
end Go.Proofs.YtgobbogomchnhaaGreatDoor
end
section
set_option linter.unusedSimpArgs false
set_option linter.unusedVariables false
set_option maxRecDepth 100000
namespace Go.Proofs.YtgobbogomchnhaaGreatDoor
open Go Go.Pv
open Classical
theorem rowP:rowTy Tryz.prog 9 37=some [.sl [.int .i64], .sl [.int .i64]]:=by kernel_rfl
theorem argP {v:LV} (h:HasArg Tryz.prog 9 37 v):∃ st lo sl ll,v = .agg [st,lo]∧IsInts st sl∧IsInts lo ll:=by
 obtain ⟨row,lvs,h1,h2,h3⟩:=h
 rw [rowP] at h1
 cases h1
 rw [Tryz.underlying37] at h3
 cases h2 with | cons a h2=>cases h2 with | cons b h2=>
 cases h2
 obtain ⟨sl,hS⟩:=hasC_ints a
 obtain ⟨ll,hL⟩:=hasC_ints b
 exact ⟨_,_,sl,ll,h3,hS,hL⟩
end Go.Proofs.YtgobbogomchnhaaGreatDoor
end
