/- BuchiOperationsMatchReference: facts of the card. -/
import Derived.Test.YtgobbogomchnhaaGreatDoorCards
import Derived.ProofKit
import Derived.JoinedOf
import Derived.LaidMore
import Derived.SevenTiedAt
import Derived.Stop.Joined
set_option linter.unusedSimpArgs false
set_option linter.unusedVariables false
section
namespace Go.Proofs.YtgobbogomchnhaaGreatDoor
open Go Go.ChangeShapes Go.WideShapes Go.ChangeAt Go.RowKit
set_option maxRecDepth 100000
theorem wf_is:OpenClaim.wfByText (OpenSpec.ofChange Rows.buchiOperationsMatchReferenceSpec) Rows.buchiOperationsMatchReferenceRow=true:=by kernel_rfl
theorem main_is:Tryz.pinned.checked.prog.mainIs=some (Rows.buchiOperationsMatchReferenceCard.stood.harness.fst,Rows.buchiOperationsMatchReferenceCard.stood.harness.snd.toList):=by kernel_rfl
theorem goes_is:false=Rows.buchiOperationsMatchReferenceRow.goesBy Tryz.pinned.checked.prog:=by kernel_rfl
end Go.Proofs.YtgobbogomchnhaaGreatDoor
end
section
namespace Go.Proofs.YtgobbogomchnhaaGreatDoor
open Go Go.ChangeShapes Go.WideShapes Go.ChangeAt Go.RowKit
set_option maxRecDepth 100000
theorem looks_is:false=Tryz.pinned.checked.prog.looks []:=by kernel_rfl
theorem stand_is:(Tryz.f3.params.toList.all fun u=>!Tryz.prog.wantsStandIn u)=true:=by kernel_rfl
end Go.Proofs.YtgobbogomchnhaaGreatDoor
end
