/- buchi.Trim's moves: the moves of a state for a letter, yielded. -/
import Derived.Test.YtbdoggiabclkdaaGreatDoorTnum
import Derived.Test.YtbdoggiabclkdaaGreatDoorPvQ
set_option linter.unusedSimpArgs false
set_option linter.unusedVariables false
namespace Go.Proofs.YtbdoggiabclkdaaGreatDoor
open Go Go.Pv Go.Bfs
open Classical
def rowM (B : Bu) (q a : Nat) : Moves := (B.next.getD q []).getD a []
end Go.Proofs.YtbdoggiabclkdaaGreatDoor
