/- An automaton and a lasso as arguments. -/
import Derived.Test.YthcllhhldknkmaaGreatDoorWod
import Derived.Test.YthcllhhldknkmaaGreatDoorValid
import Derived.Test.YthcllhhldknkmaaGreatDoorPvRow
set_option linter.unusedSimpArgs false
set_option linter.unusedVariables false
section
set_option linter.unusedSimpArgs false
set_option linter.unusedVariables false
set_option maxRecDepth 100000
namespace Go.Proofs.YthcllhhldknkmaaGreatDoor
open Go Go.Pv
open Classical
theorem rowB:rowTy Tryz.prog 9 25=some [.int .i64, .sl [.int .i64], .sl [.sl [.sl [.int .i64, .bool]]]]:=by kernel_rfl
theorem rowL:rowTy Tryz.prog 9 27=some [.sl [.int .i64], .sl [.int .i64]]:=by kernel_rfl
theorem argB {v:LV} (h:HasArg Tryz.prog 9 25 v):∃ B sv nv,IsB v B sv nv∧inI64 B.L:=by
  obtain ⟨row,lvs,h1,h2,h3⟩:=h
  rw [rowB] at h1
  cases h1
  rw [Tryz.underlying25] at h3
  cases h2 with | cons a h2=>cases h2 with | cons b h2=>cases h2 with | cons c h2=>
  cases h2
  obtain ⟨L,rfl,hL⟩:=hasC_int a
  obtain ⟨st,hst⟩:=hasC_ints b
  obtain ⟨nx,hnx⟩:=hasC_next c
  exact ⟨⟨L,st,nx⟩,_,_,⟨h3,hst,hnx⟩,hL⟩
theorem argL {v:LV} (h:HasArg Tryz.prog 9 27 v):∃ st lo sl ll,v = .agg [st,lo]∧IsInts st sl∧IsInts lo ll:=by
  obtain ⟨row,lvs,h1,h2,h3⟩:=h
  rw [rowL] at h1
  cases h1
  rw [Tryz.underlying27] at h3
  cases h2 with | cons a h2=>cases h2 with | cons b h2=>
  cases h2
  obtain ⟨sl,hS⟩:=hasC_ints a
  obtain ⟨ll,hL⟩:=hasC_ints b
  exact ⟨_,_,sl,ll,h3,hS,hL⟩
end Go.Proofs.YthcllhhldknkmaaGreatDoor
end
section
set_option linter.unusedSimpArgs false
set_option linter.unusedVariables false
set_option maxRecDepth 100000
namespace Go.Proofs.YthcllhhldknkmaaGreatDoor
open Go Go.Pv
open Classical
theorem rowU:rowTy Tryz.prog 9 5=some [.int .u8]:=by kernel_rfl
theorem argU {v:LV} (h:HasArg Tryz.prog 9 5 v):∃ n:Nat,v = .int .u8 (n:Int)∧n<256:=by
  obtain ⟨row,lvs,h1,h2,h3⟩:=h
  rw [rowU] at h1
  cases h1
  rw [Tryz.underlying5] at h3
  cases h2 with | cons a h2=>
  cases h2
  simp only [List.cons.injEq,and_true] at h3
  subst h3
  cases a with
  | @int _ n hw=>
    have hb:0≤n∧n≤255:=by simpa [Lit.wf,IntKind.min,IntKind.max,IntKind.signed,IntKind.bits] using hw
    exact ⟨n.toNat,by rw [show ((n.toNat:Nat):Int)=n by omega],by omega⟩
theorem rowT:rowTy Tryz.prog 9 4=some [.bool]:=by kernel_rfl
theorem argT {v:LV} (h:HasArg Tryz.prog 9 4 v):∃ b,v = .bool b:=by
  obtain ⟨row,lvs,h1,h2,h3⟩:=h
  rw [rowT] at h1
  cases h1
  rw [Tryz.underlying4] at h3
  cases h2 with | cons a h2=>
  cases h2
  simp only [List.cons.injEq,and_true] at h3
  subst h3
  cases a
  exact ⟨_,rfl⟩
end Go.Proofs.YthcllhhldknkmaaGreatDoor
end
