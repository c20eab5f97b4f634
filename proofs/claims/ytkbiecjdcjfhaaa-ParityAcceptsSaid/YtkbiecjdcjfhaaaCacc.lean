/- foresightlaw18.ParityAccepts answers true for every input, and leaves its arguments as they were. No condition beyond those that the given row states. -/
import Derived.Test.YtkbiecjdcjfhaaaRows
import Derived.Test.YtkbiecjdcjfhaaaPacc
import Derived.ProofKit
import Derived.JoinedOf
set_option linter.unusedSimpArgs false
set_option linter.unusedVariables false
set_option maxRecDepth 100000
set_option maxHeartbeats 16000000
namespace Go.Proofs.Ytkbiecjdcjfhaaa
open Go.ChangeShapes Go.WideShapes Go.ChangeAt Go.RowKit Go.Pv
theorem own:ownKnob Try.prog.godebug=none:=by kernel_rfl
theorem laid:laidOutB Try.prog=true:=by kernel_rfl
theorem hts3:∀ t∈Try.f3.params.toList,Try.prog.readableRec t=true/\t<Try.prog.types.size:=by
 have h:(Try.f3.params.toList.all λt=>Try.prog.readableRec t && decide (t<Try.prog.types.size))=true:=by kernel_rfl
 intro t a;have:=List.all_eq_true.1 h t a;simpa using this
theorem hrow3:∀ t∈Try.f3.params.toList,(lW Try.prog 9 t).isSome=true:=by
 have h:(Try.f3.params.toList.all λt=>(lW Try.prog 9 t).isSome)=true:=by kernel_rfl
 intro t a;exact List.all_eq_true.1 h t a
theorem Sz (os:Os) (started:os.Started) (H:Type) (enc:TypeId × Value->H) :
 ReturnsInHanded {} Try.checked os 3 .any (Rows.parityAcceptsSpec.pre6 enc Try.prog Try.f3 Rows.parityAcceptsRow.domain false) (Rows.parityAcceptsSpec.post enc Try.prog Try.f3 false true false false):=by
 refine returnsInHanded_of_change (C:=Try.checked) own started (by kernel_rfl) Try.func3
  (ChangeSpec.witness6 (enc:=enc) (C:=Try.checked) false ⟨#[],#[.agg #[.int .i64 0, .slice none 0 0, .slice none 0 0], .agg #[.slice none 0 0, .slice none 0 0]],[]⟩ 8 (by kernel_rfl) (by kernel_rfl) (by kernel_rfl) (by kernel_rfl)) ?_
 intro W base args a gs before b c _ _;refine BZ (n:=9) (tb:=4) rfl (λa h=>?_) (by kernel_rfl) Try.underlying4 laid hts3 hrow3 Gv b c;rw[Try.params3]at h;match a,h with
 | [_,_],_=>rfl
theorem parityAccepts_holds:Rows.ParityAcceptsSaid:=
 OpenClaim.holds_of_wide 3 Try.f3 rfl rfl rfl rfl rfl rfl rfl ⟨rfl,rfl,rfl,rfl,rfl⟩ rfl rfl rfl rfl rfl (by kernel_rfl) Try.func3 (by kernel_rfl)
  (of_decide_eq_true (by kernel_rfl)) (by unfold Func.isWrapper;first | (rw[if_pos (by decide +kernel)];kernel_rfl) | (rw[if_neg (by decide +kernel)];exact⟨rfl,rfl⟩))
  (λos started H a _=>Sz os started H a)
end Go.Proofs.Ytkbiecjdcjfhaaa
