/- buchi.Trim's moves: the moves of a state for a letter, yielded. -/
import Derived.Test.YtohldpfjnllkdaaDoorTnum
import Derived.Test.YtohldpfjnllkdaaDoorPvQ
set_option linter.unusedSimpArgs false
set_option linter.unusedVariables false
namespace Go.Proofs.YtohldpfjnllkdaaDoor
open Go Go.Pv Go.Bfs
open Classical
def rowM (B:Bu) (q a:Nat):Moves:=(B.next.getD q []).getD a []
end Go.Proofs.YtohldpfjnllkdaaDoor
