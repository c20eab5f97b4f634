/- AcceptMatchesReference: facts of the card. -/
import Derived.Test.YtgobbogomchnhaaGreatDoorCards
import Derived.ProofKit
import Derived.JoinedOf
import Derived.LaidMore
import Derived.SevenTiedAt
import Derived.Stop.Joined
set_option linter.unusedSimpArgs false
set_option linter.unusedVariables false
namespace Go.Proofs.YtgobbogomchnhaaGreatDoor
open Go Go.ChangeShapes Go.WideShapes Go.ChangeAt Go.RowKit
set_option maxRecDepth 100000
theorem wf_is:OpenClaim.wfByText (OpenSpec.ofChange Rows.acceptMatchesReferenceSpec) Rows.acceptMatchesReferenceRow=true:=by kernel_rfl
theorem main_is:Tryz.pinned.checked.prog.mainIs=some (Rows.acceptMatchesReferenceCard.stood.harness.fst,Rows.acceptMatchesReferenceCard.stood.harness.snd.toList):=by kernel_rfl
theorem goes_is:false=Rows.acceptMatchesReferenceRow.goesBy Tryz.pinned.checked.prog:=by kernel_rfl
end Go.Proofs.YtgobbogomchnhaaGreatDoor
