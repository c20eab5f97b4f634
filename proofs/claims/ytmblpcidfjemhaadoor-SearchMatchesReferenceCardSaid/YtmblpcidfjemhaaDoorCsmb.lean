/- SearchMatchesReference: facts of the row. -/
import Derived.Test.YtmblpcidfjemhaaDoorRows
import Derived.ProofKit
import Derived.JoinedOf
import Derived.LaidMore
import Derived.SevenTiedAt
import Derived.Stop.Joined
import Derived.Test.YtmblpcidfjemhaaDoorCards
set_option linter.unusedSimpArgs false
set_option linter.unusedVariables false
section
namespace Go.Proofs.YtmblpcidfjemhaaDoor
open Go Go.ChangeShapes Go.WideShapes Go.ChangeAt Go.RowKit
set_option maxRecDepth 100000
theorem and_t {a b:Bool} (ha:a=true) (hb:b=true):(a && b)=true:=by rw [ha,hb];rfl
theorem jn2:laidOutB Tryd.pinned.checked.prog=true:=by kernel_rfl
theorem jn3:mapsRowed Tryd.pinned.checked.prog=true:=by kernel_rfl
theorem jn10:(Rows.searchMatchesReferenceRow.inPlace == Tryd.pinned.checked.prog.inPlace 3)=true:=by kernel_rfl
theorem jn11:(Rows.searchMatchesReferenceRow.unfollowed == Tryd.pinned.checked.prog.unfollowed 3)=true:=by kernel_rfl
theorem jn12:(Rows.searchMatchesReferenceRow.recurses == Tryd.pinned.checked.prog.recurses 3)=true:=by kernel_rfl
theorem jn13:(Rows.searchMatchesReferenceRow.named == Tryd.pinned.checked.prog.varsNamed 3)=true:=by kernel_rfl
theorem jn25:Tryd.pinned.checked.prog.stopsHeard=true:=by kernel_rfl
theorem jn26:Tryd.pinned.checked.prog.mayEnter=true:=by kernel_rfl
theorem joined_is:joinedFacts Tryd.pinned.checked.prog 3 Tryd.f3 Rows.searchMatchesReferenceSpec Rows.searchMatchesReferenceRow=true:=by
  unfold joinedFacts
  refine and_t (and_t (and_t (and_t (and_t (and_t (and_t (and_t (and_t (and_t (and_t (and_t (and_t (and_t (and_t (and_t (and_t (and_t (and_t (and_t (and_t (and_t (and_t (and_t (and_t (and_t (and_t (and_t (and_t (and_t (and_t ?_ jn2) jn3) ?_) ?_) ?_) ?_) ?_) ?_) jn10) jn11) jn12) jn13) ?_) ?_) ?_) ?_) ?_) ?_) ?_) ?_) ?_) ?_) ?_) jn25) jn26) ?_) ?_) ?_) ?_) ?_) ?_
  all_goals kernel_rfl
end Go.Proofs.YtmblpcidfjemhaaDoor
end
section
namespace Go.Proofs.YtmblpcidfjemhaaDoor
open Go Go.ChangeShapes Go.WideShapes Go.ChangeAt Go.RowKit
set_option maxRecDepth 100000
theorem wf_is:OpenClaim.wfByText (OpenSpec.ofChange Rows.searchMatchesReferenceSpec) Rows.searchMatchesReferenceRow=true:=by kernel_rfl
theorem main_is:Tryd.pinned.checked.prog.mainIs=some (Rows.searchMatchesReferenceCard.stood.harness.fst,Rows.searchMatchesReferenceCard.stood.harness.snd.toList):=by kernel_rfl
theorem goes_is:false=Rows.searchMatchesReferenceRow.goesBy Tryd.pinned.checked.prog:=by kernel_rfl
end Go.Proofs.YtmblpcidfjemhaaDoor
end
section
namespace Go.Proofs.YtmblpcidfjemhaaDoor
open Go Go.ChangeShapes Go.WideShapes Go.ChangeAt Go.RowKit
set_option maxRecDepth 100000
theorem looks_is:false=Tryd.pinned.checked.prog.looks []:=by kernel_rfl
theorem stand_is:(Tryd.f3.params.toList.all fun u=>!Tryd.prog.wantsStandIn u)=true:=by kernel_rfl
end Go.Proofs.YtmblpcidfjemhaaDoor
end
