/- foresightlaw18.ParityNumbers answers true for every input, and leaves its arguments as they were. No condition beyond those that the given row states. -/
import Derived.Test.YtkbiecjdcjfhaaaRows
import Derived.Test.YtkbiecjdcjfhaaaPnm
import Derived.ProofKit
import Derived.JoinedOf
set_option linter.unusedSimpArgs false
set_option linter.unusedVariables false
namespace Go.Proofs.Ytkbiecjdcjfhaaa
open Go.ChangeShapes Go.WideShapes Go.ChangeAt Go.RowKit Go.Pv
set_option maxRecDepth 100000
theorem own:ownKnob Try.prog.godebug=none:=by kernel_rfl
theorem laid:laidOutB Try.prog=true:=by kernel_rfl
theorem hts4:∀ t∈Try.f4.params.toList,Try.prog.readableRec t=true∧t<Try.prog.types.size:=by
  have h:(Try.f4.params.toList.all fun t=>Try.prog.readableRec t && decide (t<Try.prog.types.size))=true:=by kernel_rfl
  intro t ht
  have:=List.all_eq_true.1 h t ht
  simpa using this
theorem hrow4:∀ t∈Try.f4.params.toList,(rowTy Try.prog 9 t).isSome=true:=by
  have h:(Try.f4.params.toList.all fun t=>(rowTy Try.prog 9 t).isSome)=true:=by kernel_rfl
  intro t ht
  exact List.all_eq_true.1 h t ht
theorem lifted4 (os:Os) (started:os.Started) (H:Type) (enc:TypeId × Value→H) :
    ReturnsInHanded {} Try.checked os 4 .any (Rows.parityNumbersSpec.pre6 enc Try.prog Try.f4 Rows.parityNumbersRow.domain false) (Rows.parityNumbersSpec.post enc Try.prog Try.f4 false true false false):=by
  refine returnsInHanded_of_change (C:=Try.checked) own started (by kernel_rfl) Try.func4
    (ChangeSpec.witness6 (enc:=enc) (C:=Try.checked) false ⟨#[],#[.agg #[.int .i64 0, .slice none 0 0, .slice none 0 0]],[]⟩ 8 (by kernel_rfl) (by kernel_rfl) (by kernel_rfl) (by kernel_rfl)) ?_
  intro W base args ds gs before hval hW _ _
  refine law_contract (n:=9) (tb:=4) rfl (fun ds h=>?_) (by kernel_rfl) Try.underlying4 laid hts4 hrow4 lawNumbers hval hW
  rw [Try.params4] at h
  match ds,h with
  | [_],_=>rfl
theorem parityNumbers_holds:Rows.ParityNumbersSaid:=
  OpenClaim.holds_of_wide 4 Try.f4 rfl rfl rfl rfl rfl rfl rfl ⟨rfl,rfl,rfl,rfl,rfl⟩ rfl rfl rfl rfl rfl (by kernel_rfl) Try.func4 (by kernel_rfl)
    (of_decide_eq_true (by kernel_rfl)) (by unfold Func.isWrapper;first | (rw [if_pos (by decide +kernel)];kernel_rfl) | (rw [if_neg (by decide +kernel)];exact ⟨rfl,rfl⟩))
    (fun os started H enc _=>lifted4 os started H enc)
end Go.Proofs.Ytkbiecjdcjfhaaa
