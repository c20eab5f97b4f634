/- foresightlaw14.AcceptSuffix answers true for every input, and leaves its arguments as they were. The package variables that the row lists are tied to the program's text; no other condition beyond those that the given row states. -/
import Derived.Test.YtpjdddpjcfdlfaaGreatDoorCsufc
import Derived.Test.YtpjdddpjcfdlfaaGreatDoorCards
import Derived.Test.YtpjdddpjcfdlfaaGreatDoorTie
import Derived.ProofKit
import Derived.JoinedOf
import Derived.LaidMore
import Derived.SevenTiedAt
import Derived.Stop.Joined
set_option linter.unusedSimpArgs false
set_option linter.unusedVariables false
namespace Go.Proofs.YtpjdddpjcfdlfaaGreatDoor
open Go Go.ChangeShapes Go.WideShapes Go.ChangeAt Go.RowKit Go.Pv
set_option maxRecDepth 100000
theorem acceptSuffix_holds:Rows.AcceptSuffixCardSaid:=
  Claim7.holds_tied_plain_at .later [] [.data, .data, .data] true Rows.acceptSuffixCard.stood.harness false
    row_holds (fun _ h=>by cases h) (by kernel_rfl) (fun _ h=>by cases h) acceptSuffix_row_tie rfl ⟨rfl,rfl⟩ (by kernel_rfl) rfl
    (fun f fn hf hfn=>by
      obtain rfl : f = 3 := Option.some.inj ((show Tryz.prog.funcNamed "foresight/foresightlaw14.AcceptSuffix" = some 3 by kernel_rfl).symm.trans hf) |>.symm
      obtain rfl:fn=Tryz.f3:=(Option.some.inj (Tryz.func3.symm.trans hfn)).symm
      exact ⟨by kernel_rfl,fun j t ht=>by
        have hm:t∈Tryz.f3.params.toList:=by simpa using Array.mem_of_getElem? ht
        have hall:(Tryz.f3.params.toList.all fun u=>!Tryz.prog.wantsStandIn u)=true:=by kernel_rfl
        exact (show Tryz.prog.wantsStandIn t=false by simpa using List.all_eq_true.1 hall t hm)⟩)
    (by kernel_rfl)
end Go.Proofs.YtpjdddpjcfdlfaaGreatDoor
