/- foresightlaw14.AcceptSuffix answers true for every input: what the row says of the program. The package variables that the row lists are tied to the program's text; no other condition beyond those that the given row states. -/
import Derived.Test.YtpjdddpjcfdlfaaGreatDoorRows
import Derived.ProofKit
import Derived.JoinedOf
import Derived.LaidMore
import Derived.SevenTiedAt
import Derived.Stop.Joined
set_option linter.unusedSimpArgs false
set_option linter.unusedVariables false
namespace Go.Proofs.YtpjdddpjcfdlfaaGreatDoor
open Go Go.ChangeShapes Go.WideShapes Go.ChangeAt Go.RowKit
set_option maxRecDepth 100000
theorem joined_is:joinedFacts Tryz.pinned.checked.prog 3 Tryz.f3 Rows.acceptSuffixSpec Rows.acceptSuffixRow=true:=by kernel_rfl
end Go.Proofs.YtpjdddpjcfdlfaaGreatDoor
