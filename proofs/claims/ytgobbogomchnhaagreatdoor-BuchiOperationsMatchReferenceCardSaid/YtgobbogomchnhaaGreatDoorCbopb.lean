/- BuchiOperationsMatchReference: facts of the row. -/
import Derived.Test.YtgobbogomchnhaaGreatDoorRows
import Derived.ProofKit
import Derived.JoinedOf
import Derived.LaidMore
import Derived.SevenTiedAt
import Derived.Stop.Joined
set_option linter.unusedSimpArgs false
set_option linter.unusedVariables false
namespace Go.Proofs.YtgobbogomchnhaaGreatDoor
open Go Go.ChangeShapes Go.WideShapes Go.ChangeAt Go.RowKit
set_option maxRecDepth 100000
theorem and_t {a b:Bool} (ha:a=true) (hb:b=true):(a && b)=true:=by rw [ha,hb];rfl
theorem jn2:laidOutB Tryz.pinned.checked.prog=true:=by kernel_rfl
theorem jn3:mapsRowed Tryz.pinned.checked.prog=true:=by kernel_rfl
theorem jn10:(Rows.buchiOperationsMatchReferenceRow.inPlace == Tryz.pinned.checked.prog.inPlace 3)=true:=by kernel_rfl
theorem jn11:(Rows.buchiOperationsMatchReferenceRow.unfollowed == Tryz.pinned.checked.prog.unfollowed 3)=true:=by kernel_rfl
theorem jn12:(Rows.buchiOperationsMatchReferenceRow.recurses == Tryz.pinned.checked.prog.recurses 3)=true:=by kernel_rfl
theorem jn13:(Rows.buchiOperationsMatchReferenceRow.named == Tryz.pinned.checked.prog.varsNamed 3)=true:=by kernel_rfl
theorem jn25:Tryz.pinned.checked.prog.stopsHeard=true:=by kernel_rfl
theorem jn26:Tryz.pinned.checked.prog.mayEnter=true:=by kernel_rfl
theorem joined_is:joinedFacts Tryz.pinned.checked.prog 3 Tryz.f3 Rows.buchiOperationsMatchReferenceSpec Rows.buchiOperationsMatchReferenceRow=true:=by
  unfold joinedFacts
  refine and_t (and_t (and_t (and_t (and_t (and_t (and_t (and_t (and_t (and_t (and_t (and_t (and_t (and_t (and_t (and_t (and_t (and_t (and_t (and_t (and_t (and_t (and_t (and_t (and_t (and_t (and_t (and_t (and_t (and_t (and_t ?_ jn2) jn3) ?_) ?_) ?_) ?_) ?_) ?_) jn10) jn11) jn12) jn13) ?_) ?_) ?_) ?_) ?_) ?_) ?_) ?_) ?_) ?_) ?_) jn25) jn26) ?_) ?_) ?_) ?_) ?_) ?_
  all_goals kernel_rfl
end Go.Proofs.YtgobbogomchnhaaGreatDoor
