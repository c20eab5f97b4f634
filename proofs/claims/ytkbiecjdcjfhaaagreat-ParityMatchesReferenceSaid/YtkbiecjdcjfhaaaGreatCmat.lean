/- foresightlaw18.ParityMatchesReference answers true for every input, and leaves its arguments as they were. No condition beyond those that the given row states. -/
import Derived.Test.YtkbiecjdcjfhaaaGreatRows
import Derived.Test.YtkbiecjdcjfhaaaGreatArgs
import Derived.ProofKit
import Derived.JoinedOf
set_option linter.unusedSimpArgs false
set_option linter.unusedVariables false
set_option maxRecDepth 100000
set_option maxHeartbeats 16000000
namespace Go.Proofs.YtkbiecjdcjfhaaaGreat
open Go.ChangeShapes Go.WideShapes Go.ChangeAt Go.RowKit Go.Pv
theorem own:ownKnob Tryz.prog.godebug=none:=by kernel_rfl
theorem laid:laidOutB Tryz.prog=true:=by kernel_rfl
theorem hts3:∀ t∈Tryz.f3.params.toList,Tryz.prog.readableRec t=true/\t<Tryz.prog.types.size:=by
 have h:(Tryz.f3.params.toList.all λt=>Tryz.prog.readableRec t && decide (t<Tryz.prog.types.size))=true:=by kernel_rfl
 intro t a;have:=List.all_eq_true.1 h t a;simpa using this
theorem hrow3:∀ t∈Tryz.f3.params.toList,(kL Tryz.prog 9 t).isSome=true:=by
 have h:(Tryz.f3.params.toList.all λt=>(kL Tryz.prog 9 t).isSome)=true:=by kernel_rfl
 intro t a;exact List.all_eq_true.1 h t a
theorem Uq (os:Os) (started:os.Started) (H:Type) (enc:TypeId × Value->H) :
 ReturnsInHanded {} Tryz.checked os 3 .any (Rows.parityMatchesReferenceSpec.pre6 enc Tryz.prog Tryz.f3 Rows.parityMatchesReferenceRow.domain false) (Rows.parityMatchesReferenceSpec.post enc Tryz.prog Tryz.f3 false true false false):=by
 refine returnsInHanded_of_change (C:=Tryz.checked) own started (by kernel_rfl) Tryz.func3
  (ChangeSpec.witness6 (enc:=enc) (C:=Tryz.checked) false ⟨#[],#[.agg #[.int .i64 0, .slice none 0 0, .slice none 0 0], .int .u8 0, .agg #[.int .i64 0, .int .i64 0, .slice none 0 0, .slice none 0 0], .agg #[.slice none 0 0, .slice none 0 0]],[]⟩ 8 (by kernel_rfl) (by kernel_rfl) (by kernel_rfl) (by kernel_rfl)) ?_
 intro W base args a gs before b c _ _;refine CQ (n:=9) (tb:=4) rfl (λa h=>?_) (by kernel_rfl) Tryz.underlying4 laid hts3 hrow3 H8 b c;rw[Tryz.params3]at h;match a,h with
 | [_,_,_,_],_=>rfl
theorem parityMatchesReference_holds:Rows.ParityMatchesReferenceSaid:=
 OpenClaim.holds_of_wide 3 Tryz.f3 rfl rfl rfl rfl rfl rfl rfl ⟨rfl,rfl,rfl,rfl,rfl⟩ rfl rfl rfl rfl rfl (by kernel_rfl) Tryz.func3 (by kernel_rfl)
  (of_decide_eq_true (by kernel_rfl)) (by unfold Func.isWrapper;first | (rw[if_pos br];kernel_rfl) | (rw[if_neg br];exact⟨rfl,rfl⟩))
  (λos started H a _=>Uq os started H a)
end Go.Proofs.YtkbiecjdcjfhaaaGreat
