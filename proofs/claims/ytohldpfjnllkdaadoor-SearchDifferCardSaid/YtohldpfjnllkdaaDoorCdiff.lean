/- foresightlaw15.SearchDiffer answers true for every input, and leaves its arguments as they were. The package variable that the row lists is tied to the program's text; no other condition beyond those that the given row states. -/
import Derived.Test.YtohldpfjnllkdaaDoorRows
import Derived.Test.YtohldpfjnllkdaaDoorCards
import Derived.Test.YtohldpfjnllkdaaDoorTie
import Derived.Test.YtohldpfjnllkdaaDoorLdiff
import Derived.ProofKit
import Derived.JoinedOf
import Derived.LaidMore
import Derived.SevenTiedAt
import Derived.Stop.Joined
set_option linter.unusedSimpArgs false
set_option linter.unusedVariables false
namespace Go.Proofs.YtohldpfjnllkdaaDoor
open Go Go.ChangeShapes Go.WideShapes Go.ChangeAt Go.RowKit Go.Pv
set_option maxRecDepth 100000
theorem ownK:ownKnob Tryd.prog.godebug=none:=by kernel_rfl
theorem laidK:laidOutB Tryd.prog=true:=by kernel_rfl
def laidL : List (String × DataW Unit) := [("foresight/formula.forms", Rows.laid_foresight_formula_forms)]
theorem laidNames:(laidL.all fun x=>x.2.handleName?.isNone)=true:=by kernel_rfl
theorem laidG:globLV Tryd.prog 9 laidL=some GL:=by kernel_rfl
theorem hts:∀ t∈Tryd.f6.params.toList,Tryd.prog.readableRec t=true∧t<Tryd.prog.types.size:=by
  have h:(Tryd.f6.params.toList.all fun t=>Tryd.prog.readableRec t && decide (t<Tryd.prog.types.size))=true:=by kernel_rfl
  intro t ht
  have:=List.all_eq_true.1 h t ht
  simpa using this
theorem hrow:∀ t∈Tryd.f6.params.toList,(rowTy Tryd.prog 9 t).isSome=true:=by
  have h:(Tryd.f6.params.toList.all fun t=>(rowTy Tryd.prog 9 t).isSome)=true:=by kernel_rfl
  intro t ht
  exact List.all_eq_true.1 h t ht
theorem door_met (os:Os) (args:Array Value):laidMetH Tryd.prog laidL ((World.doorLaid Tryd.prog 2000 os).forCall (fun _ _=>0) ⟨#[],args,[]⟩).memory:=by
  rw [MakeChecks.laidMetH_plain _ _ _ laidNames]
  exact laidMet_of_run' 8 (by kernel_rfl) (by kernel_rfl)
theorem lifted (os:Os) (started:os.Started) (H:Type) (enc:TypeId × Value→H) :
    ReturnsInHanded {} Tryd.checked os 6 .any (fun w args=>(Rows.searchDifferSpec.pre enc Tryd.prog Tryd.f6 [] false w args∧laidMetH Tryd.prog laidL w)∧sizedMet enc Tryd.prog Tryd.f6 (OpenSpec.ofChange Rows.searchDifferSpec) false w args)
      (Rows.searchDifferSpec.post enc Tryd.prog Tryd.f6 false true false false):=by
  refine returnsInHanded_of_change_and (C:=Tryd.checked) (X:=fun w _=>laidMetH Tryd.prog laidL w) (fun _ _ _ hh h=>h.of_heap hh) ownK started (by kernel_rfl) Tryd.func6
    (ChangeSpec.witness_shaped (enc:=enc) (C:=Tryd.checked) (os:=os) (X:=fun w _=>laidMetH Tryd.prog laidL w) false (World.doorLaid Tryd.prog 2000 os) #[.agg #[.int .i64 0, .slice none 0 0, .slice none 0 0], .agg #[.int .i64 0, .slice none 0 0, .slice none 0 0], .agg #[.slice none 0 0, .slice none 0 0]] 8 rfl (World.shaped_of_RefB (by kernel_rfl) (by kernel_rfl)) (by kernel_rfl) (by kernel_rfl) (by kernel_rfl) (door_met os _)) ?_
  intro W base args ds gs before hval hW _ _ hL _
  refine law_contractG (G:=GL) (n:=9) (tb:=4) (globs_met laidNames laidG hL) rfl (fun ds h=>?_) (by kernel_rfl) Tryd.underlying4 laidK hts hrow lawDiffer hval hW
  rw [Tryd.params6] at h
  match ds,h with
  | [_,_,_],_=>rfl
theorem row_holds:Rows.SearchDifferSaid:=
  OpenClaim.holds_of_wide 6 Tryd.f6 rfl rfl rfl rfl rfl rfl rfl ⟨rfl,rfl,rfl,rfl,rfl⟩ rfl rfl rfl rfl rfl (by kernel_rfl) Tryd.func6 (by kernel_rfl)
    (of_decide_eq_true (by kernel_rfl)) (by unfold Func.isWrapper;first | (rw [if_pos (by decide +kernel)];kernel_rfl) | (rw [if_neg (by decide +kernel)];exact ⟨rfl,rfl⟩))
    (fun os started H enc _=>lifted os started H enc)
theorem searchDiffer_holds:Rows.SearchDifferCardSaid:=
  Claim7.holds_tied_plain_at .later [] [.data] true Rows.searchDifferCard.stood.harness false
    row_holds (fun _ h=>by cases h) (by kernel_rfl) (fun _ h=>by cases h) searchDiffer_row_tie rfl ⟨rfl,rfl⟩ (by kernel_rfl) rfl
    (fun f fn hf hfn=>by
      obtain rfl : f = 6 := Option.some.inj ((show Tryd.prog.funcNamed "foresight/foresightlaw15.SearchDiffer" = some 6 by kernel_rfl).symm.trans hf) |>.symm
      obtain rfl:fn=Tryd.f6:=(Option.some.inj (Tryd.func6.symm.trans hfn)).symm
      exact ⟨by kernel_rfl,fun j t ht=>by
        have hm:t∈Tryd.f6.params.toList:=by simpa using Array.mem_of_getElem? ht
        have hall:(Tryd.f6.params.toList.all fun u=>!Tryd.prog.wantsStandIn u)=true:=by kernel_rfl
        exact (show Tryd.prog.wantsStandIn t=false by simpa using List.all_eq_true.1 hall t hm)⟩)
    (by kernel_rfl)
end Go.Proofs.YtohldpfjnllkdaaDoor
