/- BuchiOperationsMatchReference: the row. -/
import Derived.Test.YtgobbogomchnhaaGreatDoorCbopa
import Derived.Test.YtgobbogomchnhaaGreatDoorCbopb
import Derived.ProofKit
import Derived.JoinedOf
import Derived.LaidMore
import Derived.SevenTiedAt
import Derived.Stop.Joined
set_option linter.unusedSimpArgs false
set_option linter.unusedVariables false
namespace Go.Proofs.YtgobbogomchnhaaGreatDoor
open Go Go.ChangeShapes Go.WideShapes Go.ChangeAt Go.RowKit Go.Pv
set_option maxRecDepth 100000
theorem named_is:Tryz.pinned.checked.prog.funcNamed Rows.buchiOperationsMatchReferenceRow.func=some 3:=by kernel_rfl
theorem row_holds:Rows.BuchiOperationsMatchReferenceSaid:=
  OpenClaim.holds_of_wide 3 Tryz.f3 rfl rfl rfl rfl rfl rfl rfl ⟨rfl,rfl,rfl,rfl,rfl⟩ rfl rfl rfl rfl rfl named_is Tryz.func3 joined_is
    (of_decide_eq_true (by kernel_rfl)) (by unfold Func.isWrapper;first | (rw [if_pos (by decide +kernel)];kernel_rfl) | (rw [if_neg (by decide +kernel)];exact ⟨rfl,rfl⟩))
    (fun os started H enc _=>lifted os started H enc)
end Go.Proofs.YtgobbogomchnhaaGreatDoor
