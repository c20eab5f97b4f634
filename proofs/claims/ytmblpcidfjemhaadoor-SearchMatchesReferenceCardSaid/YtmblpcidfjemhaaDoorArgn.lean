/- A byte as an argument. -/
import Derived.Test.YtmblpcidfjemhaaDoorBsame
import Derived.Test.YtmblpcidfjemhaaDoorPvQ
set_option linter.unusedSimpArgs false
set_option linter.unusedVariables false
section
set_option linter.unusedSimpArgs false
set_option linter.unusedVariables false
set_option maxRecDepth 100000
namespace Go.Proofs.YtmblpcidfjemhaaDoor
open Go Go.Pv
open Classical
theorem rowU:rowTy Tryd.prog 9 5=some [.int .u8]:=by kernel_rfl
theorem argU {v:LV} (h:HasArg Tryd.prog 9 5 v):∃ n:Nat,v = .int .u8 (n:Int)∧n<256:=by
  obtain ⟨row,lvs,h1,h2,h3⟩:=h
  rw [rowU] at h1
  cases h1
  rw [Tryd.underlying5] at h3
  cases h2 with | cons a h2=>
  cases h2
  simp only [List.cons.injEq,and_true] at h3
  subst h3
  cases a with
  | @int _ n hw=>
    have hb:0≤n∧n≤255:=by simpa [Lit.wf,IntKind.min,IntKind.max,IntKind.signed,IntKind.bits] using hw
    exact ⟨n.toNat,by rw [show ((n.toNat:Nat):Int)=n by omega],by omega⟩
end Go.Proofs.YtmblpcidfjemhaaDoor
end
section
set_option linter.unusedSimpArgs false
set_option linter.unusedVariables false
namespace Go.Proofs.YtmblpcidfjemhaaDoor
open Go Go.Pv
open Classical
theorem rem_nat (n:Nat) {m:Nat} (h:0<m):binLV .rem (.int .i64 (n:Int)) (.int .i64 (m:Int))=some (.int .i64 ((n % m:Nat):Int)):=by
  have:¬ (m:Int)=0:=by omega
  simp [binLV,intBin,this]
  exact ⟨by omega,Int.tmod_eq_emod_of_nonneg (by omega)⟩
end Go.Proofs.YtmblpcidfjemhaaDoor
end
