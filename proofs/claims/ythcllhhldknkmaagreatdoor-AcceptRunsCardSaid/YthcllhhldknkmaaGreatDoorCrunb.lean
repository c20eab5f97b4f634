/- AcceptRuns: facts of the row. -/
import Derived.Test.YthcllhhldknkmaaGreatDoorRows
import Derived.ProofKit
import Derived.JoinedOf
import Derived.LaidMore
import Derived.SevenTiedAt
import Derived.Stop.Joined
set_option linter.unusedSimpArgs false
set_option linter.unusedVariables false
namespace Go.Proofs.YthcllhhldknkmaaGreatDoor
open Go Go.ChangeShapes Go.WideShapes Go.ChangeAt Go.RowKit
set_option maxRecDepth 100000
theorem joined_is : joinedFacts Tryz.pinned.checked.prog 3 Tryz.f3 Rows.acceptRunsSpec Rows.acceptRunsRow = true := by kernel_rfl
end Go.Proofs.YthcllhhldknkmaaGreatDoor
