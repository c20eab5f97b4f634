/- AcceptOperations: facts of the card. -/
import Derived.Test.YthcllhhldknkmaaGreatDoorCards
import Derived.ProofKit
import Derived.JoinedOf
import Derived.LaidMore
import Derived.SevenTiedAt
import Derived.Stop.Joined
set_option linter.unusedSimpArgs false
set_option linter.unusedVariables false
namespace Go.Proofs.YthcllhhldknkmaaGreatDoor
open Go Go.ChangeShapes Go.WideShapes Go.ChangeAt Go.RowKit
set_option maxRecDepth 100000
theorem wf_is:OpenClaim.wfByText (OpenSpec.ofChange Rows.acceptOperationsSpec) Rows.acceptOperationsRow=true:=by kernel_rfl
theorem main_is:Tryz.pinned.checked.prog.mainIs=some (Rows.acceptOperationsCard.stood.harness.fst,Rows.acceptOperationsCard.stood.harness.snd.toList):=by kernel_rfl
theorem goes_is:false=Rows.acceptOperationsRow.goesBy Tryz.pinned.checked.prog:=by kernel_rfl
end Go.Proofs.YthcllhhldknkmaaGreatDoor
