/- foresightlaw15.SearchMatchesReference answers true for every input, and leaves its arguments as they were. The package variable that the row lists is tied to the program's text; no other condition beyond those that the given row states. -/
import Derived.Test.YtmblpcidfjemhaaDoorCsma
import Derived.Test.YtmblpcidfjemhaaDoorCsmb
import Derived.Test.YtmblpcidfjemhaaDoorCards
import Derived.Test.YtmblpcidfjemhaaDoorTie
import Derived.ProofKit
import Derived.JoinedOf
import Derived.LaidMore
import Derived.SevenTiedAt
import Derived.Stop.Joined
set_option linter.unusedSimpArgs false
set_option linter.unusedVariables false
namespace Go.Proofs.YtmblpcidfjemhaaDoor
open Go Go.ChangeShapes Go.WideShapes Go.ChangeAt Go.RowKit Go.Pv
set_option maxRecDepth 100000
theorem searchMatchesReference_holds:Rows.SearchMatchesReferenceCardSaid:=
  Claim7.holds_tied_plain_at .later [] [.data] true Rows.searchMatchesReferenceCard.stood.harness false
    row_holds (fun _ h=>by cases h) wf_is (fun _ h=>by cases h) searchMatchesReference_row_tie rfl ⟨rfl,rfl⟩ main_is rfl
    (fun f fn hf hfn=>by
      obtain rfl:f=3:=Option.some.inj (named_is.symm.trans hf) |>.symm
      obtain rfl:fn=Tryd.f3:=(Option.some.inj (Tryd.func3.symm.trans hfn)).symm
      exact ⟨looks_is,fun j t ht=>by
        have hm:t∈Tryd.f3.params.toList:=by simpa using Array.mem_of_getElem? ht
        exact (show Tryd.prog.wantsStandIn t=false by simpa using List.all_eq_true.1 stand_is t hm)⟩)
    goes_is
end Go.Proofs.YtmblpcidfjemhaaDoor
