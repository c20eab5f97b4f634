/- AcceptMatchesReference: facts of the card. -/
import Derived.Test.YtgobbogomchnhaaGreatDoorCards
import Derived.ProofKit
import Derived.JoinedOf
import Derived.LaidMore
import Derived.SevenTiedAt
import Derived.Stop.Joined
set_option linter.unusedSimpArgs false
set_option linter.unusedVariables false
namespace Go.Proofs.YtgobbogomchnhaaGreatDoor
open Go Go.ChangeShapes Go.WideShapes Go.ChangeAt Go.RowKit
set_option maxRecDepth 100000
theorem looks_is:false=Tryz.pinned.checked.prog.looks []:=by kernel_rfl
theorem stand_is:(Tryz.f4.params.toList.all fun u=>!Tryz.prog.wantsStandIn u)=true:=by kernel_rfl
end Go.Proofs.YtgobbogomchnhaaGreatDoor
