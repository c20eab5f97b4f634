/- foresightlaw13.BuchiOperationsMatchReference answers true for every input, and leaves its arguments as they were. The package variables that the row lists are tied to the program's text; no other condition beyond those that the given row states. -/
import Derived.Test.YtgobbogomchnhaaGreatDoorCbopc
import Derived.Test.YtgobbogomchnhaaGreatDoorCbopd
import Derived.Test.YtgobbogomchnhaaGreatDoorCards
import Derived.Test.YtgobbogomchnhaaGreatDoorTie
import Derived.ProofKit
import Derived.JoinedOf
import Derived.LaidMore
import Derived.SevenTiedAt
import Derived.Stop.Joined
set_option linter.unusedSimpArgs false
set_option linter.unusedVariables false
namespace Go.Proofs.YtgobbogomchnhaaGreatDoor
open Go Go.ChangeShapes Go.WideShapes Go.ChangeAt Go.RowKit Go.Pv
set_option maxRecDepth 100000
theorem buchiOperationsMatchReference_holds:Rows.BuchiOperationsMatchReferenceCardSaid:=
  Claim7.holds_tied_plain_at .later [] [.data, .data, .data] true Rows.buchiOperationsMatchReferenceCard.stood.harness false
    row_holds (fun _ h=>by cases h) wf_is (fun _ h=>by cases h) buchiOperationsMatchReference_row_tie rfl ⟨rfl,rfl⟩ main_is rfl
    (fun f fn hf hfn=>by
      obtain rfl:f=3:=Option.some.inj (named_is.symm.trans hf) |>.symm
      obtain rfl:fn=Tryz.f3:=(Option.some.inj (Tryz.func3.symm.trans hfn)).symm
      exact ⟨looks_is,fun j t ht=>by
        have hm:t∈Tryz.f3.params.toList:=by simpa using Array.mem_of_getElem? ht
        exact (show Tryz.prog.wantsStandIn t=false by simpa using List.all_eq_true.1 stand_is t hm)⟩)
    goes_is
end Go.Proofs.YtgobbogomchnhaaGreatDoor
